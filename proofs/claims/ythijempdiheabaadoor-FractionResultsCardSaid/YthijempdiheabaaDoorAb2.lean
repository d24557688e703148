import Derived.Test.YthijempdiheabaaDoorAb1
set_option autoImplicit false
namespace Go.Ab
open Go Go.RowKit

def slots (xs : Array Operand) : List Loc := xs.toList.filterMap fun | .tmp t => some (.reg t) | _ => none
/-- What an operation looks at. -/
def looks (ops : List Oper) (o : Oper) (e : Ev) : List Loc :=
  slots o.op.operands ++ ((match o.guard with | some (j, _) => (match (ops[j]?).bind (·.dst) with | some g => [.reg g] | none => []) | none => []) ++
    (e.rdc.map (fun x => Loc.cell x.1 x.2) ++ e.writes))
def touches (ops : List Oper) (o : Oper) (e : Ev) (p : Loc) : Bool := (looks ops o e).any (·.hits p)
theorem touches_wr {ops : List Oper} {o : Oper} {e : Ev} {p : Loc} (h : e.wr p = true) : touches ops o e p = true := by
  simp only [touches, looks, List.any_append, Bool.or_eq_true]
  exact .inr (.inr (.inr h))

/-- The operation does what 'e' says, in every state that agrees with 'st' where the operation looks. -/
def OpOK (P : Program) (G : IH) (ops : List Oper) (o : Oper) (st : AS) (e : Ev) : Prop :=
  ∀ (F : Nat → Prop) (w0 : World) (h0 : IH) (st' : AS) (β : Nat → Nat) (h : IH) (a : Act) (w : World) (K : Act → World → Prop) (Q : Exit → Act → World → Prop),
    st'.regs.length = st.regs.length → (∀ p, touches ops o e p = true → st'.at_ p = st.at_ p) → (∀ b ∈ e.nw, st'.free b.1 = true) →
    Gam G F w0 h0 st' β h a.tmps w → a.defers = [] →
    (∀ (a' : Act) (w' : World) (β' : Nat → Nat) (h' : IH), a'.defers = [] → Gam G F w0 h0 (e.app st') β' h' a'.tmps w' → K a' w') →
    if Region.wanted o (yielded ops.toArray a.tmps) then o.wp P a w K Q else K (a.put o.dst undef) w

/-- The state behind those operations of a region that 'D' holds of, in the text's order. -/
def fold (D : Nat → Bool) : Nat → List Ev → AS → AS
  | _, [], st => st
  | i, e :: es, st => fold D (i + 1) es (bif D i then e.app st else st)
theorem fold_length (D : Nat → Bool) : ∀ (i : Nat) (es : List Ev) (st : AS), (fold D i es st).regs.length = st.regs.length
  | _, [], _ => rfl
  | i, e :: es, st => by
    simp only [fold]
    rw [fold_length]
    cases D i
    · rfl
    · exact length_app e st
theorem fold_at {D D' : Nat → Bool} {p : Loc} : ∀ (i : Nat) (es : List Ev) (st st' : AS), st.at_ p = st'.at_ p →
    (∀ (j : Nat) (e : Ev), es[j]? = some e → e.wr p = true → D (i + j) = D' (i + j)) → (fold D i es st).at_ p = (fold D' i es st').at_ p
  | _, [], _, _, h, _ => h
  | i, e :: es, st, st', h, hd => by
    simp only [fold]
    refine fold_at (i + 1) es _ _ ?_ fun j e' he hw => by
      have := hd (j + 1) e' (by simpa using he) hw
      rwa [show i + (j + 1) = i + 1 + j from by omega] at this
    have hi := hd 0 e rfl
    rw [Nat.add_zero] at hi
    cases hw : e.wr p with
    | true =>
      rw [hi hw]
      cases D' i
      · exact h
      · exact at_app_congr e h
    | false =>
      cases D i <;> cases D' i <;> simp only [cond_true, cond_false, at_app_other e _ hw, h]
theorem fold_free {D : Nat → Bool} {s : Nat} : ∀ (i : Nat) (es : List Ev) (st : AS), st.free s = true →
    (∀ (j : Nat) (e : Ev), es[j]? = some e → D (i + j) = true → e.free s = true) → (fold D i es st).free s = true
  | _, [], _, h, _ => h
  | i, e :: es, st, h, hd => by
    simp only [fold]
    refine fold_free (i + 1) es _ ?_ fun j e' he hw => hd (j + 1) e' (by simpa using he) (by rwa [show i + 1 + j = i + (j + 1) from by omega] at hw)
    cases hD : D i with
    | false => exact h
    | true =>
      have he := hd 0 e rfl hD
      simp only [AS.free, Bool.and_eq_true, Ev.free] at h he ⊢
      have hset : ∀ (w : List (Nat × Nat × AV)) (b : List (Nat × List AV)), (w.all fun x => AV.free s x.2.2) = true → (b.all fun b => AV.frees s b.2) = true →
          ((setAll w b).all fun b => AV.frees s b.2) = true := by
        intro w
        induction w with
        | nil => intro b _ hb; exact hb
        | cons x w ih =>
          intro b hw hb
          simp only [List.all_cons, Bool.and_eq_true] at hw
          refine ih _ hw.2 ?_
          have hs : ∀ (l : List AV) (i : Nat) (x : AV), AV.free s x = true → AV.frees s l = true → AV.frees s (l.set i x) = true := by
            intro l
            induction l with
            | nil => intro i x _ hl; simpa using hl
            | cons y l ihl =>
              intro i x hx hl
              simp only [AV.frees, Bool.and_eq_true] at hl
              cases i with
              | zero => simp [AV.frees, hx, hl.2]
              | succ i => simp [AV.frees, hl.1, ihl i x hx hl.2]
          have : ∀ b : List (Nat × List AV), (b.all fun b => AV.frees s b.2) = true → ((setCells x.1 x.2.1 x.2.2 b).all fun b => AV.frees s b.2) = true := by
            intro b
            induction b with
            | nil => intro _; rfl
            | cons y b ihb =>
              intro hb
              simp only [List.all_cons, Bool.and_eq_true] at hb
              simp only [setCells]
              cases Nat.beq y.1 x.1 with
              | true => simp [hs _ _ _ hw.1 hb.1]; simpa using hb.2
              | false => simp only [cond_false, List.all_cons, Bool.and_eq_true]; exact ⟨hb.1, ihb hb.2⟩
          exact this b hb
      have hreg : ∀ (l : List AV) (t : Option Nat) (x : AV), AV.free s x = true → AV.frees s l = true → AV.frees s (putReg l t x) = true := by
        intro l t x hx hl
        cases t with
        | none => exact hl
        | some t =>
          simp only [putReg]
          induction l generalizing t with
          | nil => simpa using hl
          | cons y l ihl =>
            simp only [AV.frees, Bool.and_eq_true] at hl
            cases t with
            | zero => simp [AV.frees, hx, hl.2]
            | succ t => simp [AV.frees, hl.1, ihl hl.2 t]
      simp only [cond_true, Ev.app, List.all_append, Bool.and_eq_true]
      exact ⟨hreg _ _ _ he.1.1 h.1, he.2, hset _ _ he.1.2 h.2⟩

/-- Which operations must come before each one: a number's bits. -/
def maskOf (acc : List Nat) : List Edge → Nat → Nat
  | [], s => s
  | e :: es, s => maskOf acc es (bif Region.binds .any e then s ||| (2 ^ e.on ||| acc.getD e.on 0) else s)
def bef : List Oper → List Nat → List Nat
  | [], acc => acc
  | o :: os, acc => bef os (acc ++ [maskOf acc o.after.toList 0])
def clash1 (e : Ev) (l : List Loc) : Bool := e.writes.any fun x => l.any fun y => x.hits y || y.hits x
def clash (ops : List Oper) (a b : Oper × Ev) : Bool := clash1 a.2 (looks ops b.1 b.2) || clash1 b.2 (looks ops a.1 a.2)
/-- Every two operations of which one writes what the other looks at are in a fixed order; new blocks are named afresh. -/
def pairOK (ops : List Oper) (m : List Nat) (i : Nat) (x : Oper × Ev) (j : Nat) (y : Oper × Ev) : Bool :=
  (!clash ops x y || (m.getD j 0).testBit i) && (x.2.nw.all fun b => y.2.free b.1 || (m.getD j 0).testBit i) && y.2.nw.all fun b => x.2.free b.1
def pairsOK (ops : List Oper) (m : List Nat) (i : Nat) (x : Oper × Ev) : Nat → List (Oper × Ev) → Bool
  | _, [] => true
  | j, y :: l => pairOK ops m i x j y && pairsOK ops m i x (j + 1) l
def allPairs (ops : List Oper) (m : List Nat) : Nat → List (Oper × Ev) → Bool
  | _, [] => true
  | i, x :: l => pairsOK ops m i x (i + 1) l && allPairs ops m (i + 1) l
def backOK : Nat → List Oper → Bool
  | _, [] => true
  | i, o :: l => (o.after.toList.all fun e => !Region.binds .any e || Nat.blt e.on i) && backOK (i + 1) l
def freshOK (st : AS) (evs : List Ev) : Bool := evs.all fun e => e.nw.all fun b => st.free b.1
def orderOK (ops : List Oper) (evs : List Ev) : Bool := backOK 0 ops && allPairs ops (bef ops []) 0 (ops.zip evs)

theorem pairsOK_get {ops : List Oper} {m : List Nat} {i : Nat} {x : Oper × Ev} : ∀ {j : Nat} {l : List (Oper × Ev)}, pairsOK ops m i x j l = true →
    ∀ {k : Nat} {y : Oper × Ev}, l[k]? = some y → pairOK ops m i x (j + k) y = true
  | _, [], _, _, _, h => by simp at h
  | j, z :: l, hp, k, y, h => by
    simp only [pairsOK, Bool.and_eq_true] at hp
    cases k with
    | zero => simp at h; subst h; exact hp.1
    | succ k => rw [show j + (k + 1) = j + 1 + k from by omega]; exact pairsOK_get hp.2 (by simpa using h)
theorem allPairs_get {ops : List Oper} {m : List Nat} : ∀ {i : Nat} {l : List (Oper × Ev)}, allPairs ops m i l = true →
    ∀ {p q : Nat} {x y : Oper × Ev}, p < q → l[p]? = some x → l[q]? = some y → pairOK ops m (i + p) x (i + q) y = true
  | _, [], _, _, _, _, _, _, h, _ => by simp at h
  | i, z :: l, hp, p, q, x, y, hpq, hx, hy => by
    simp only [allPairs, Bool.and_eq_true] at hp
    cases q with
    | zero => omega
    | succ q =>
      cases p with
      | zero =>
        simp at hx; subst hx
        rw [show i + (q + 1) = i + 1 + q from by omega]
        exact pairsOK_get hp.1 (by simpa using hy)
      | succ p =>
        rw [show i + (p + 1) = i + 1 + p from by omega, show i + (q + 1) = i + 1 + q from by omega]
        exact allPairs_get hp.2 (by omega) (by simpa using hx) (by simpa using hy)
theorem backOK_get : ∀ {i : Nat} {l : List Oper}, backOK i l = true → ∀ {k : Nat} {o : Oper}, l[k]? = some o → ∀ e ∈ o.after, Region.binds .any e = true → e.on < i + k
  | _, [], _, _, _, h => by simp at h
  | i, z :: l, hp, k, o, h => by
    simp only [backOK, Bool.and_eq_true] at hp
    cases k with
    | zero =>
      simp at h; subst h
      intro e he hb
      have := List.all_eq_true.1 hp.1 e (by simpa using he)
      rw [hb] at this
      simp only [Bool.not_true, Bool.false_or] at this
      rwa [Nat.blt_eq] at this
    | succ k =>
      rw [show i + (k + 1) = i + 1 + k from by omega]
      exact backOK_get hp.2 (by simpa using h)

theorem maskOf_bit {acc : List Nat} {i : Nat} : ∀ {es : List Edge} {s : Nat}, (maskOf acc es s).testBit i = true →
    s.testBit i = true ∨ ∃ e ∈ es, Region.binds .any e = true ∧ (i = e.on ∨ (acc.getD e.on 0).testBit i = true)
  | [], _, h => .inl h
  | e :: es, s, h => by
    rcases maskOf_bit (es := es) h with h | ⟨e', he, hb⟩
    · cases hb : Region.binds .any e with
      | false => rw [hb] at h; exact .inl h
      | true =>
        rw [hb] at h
        simp only [cond_true, Nat.testBit_or, Nat.testBit_two_pow, Bool.or_eq_true, decide_eq_true_eq] at h
        rcases h with h | h | h
        · exact .inl h
        · exact .inr ⟨e, by simp, hb, .inl h.symm⟩
        · exact .inr ⟨e, by simp, hb, .inr h⟩
    · exact .inr ⟨e', by simp [he], hb⟩
/-- What is listed is closed under the edges. -/
def Closed (ops : List Oper) (D : Nat → Bool) : Prop := ∀ (j : Nat) (o : Oper), ops[j]? = some o → D j = true → ∀ e ∈ o.after, Region.binds .any e = true → D e.on = true
theorem bef_closed {ops : List Oper} {D : Nat → Bool} (hc : Closed ops D) : ∀ (post pre : List Oper) (acc : List Nat), ops = pre ++ post → acc.length = pre.length →
    (∀ j i, (acc.getD j 0).testBit i = true → D j = true → D i = true) → ∀ j i, ((bef post acc).getD j 0).testBit i = true → D j = true → D i = true
  | [], _, _, _, _, h => h
  | o :: post, pre, acc, he, hl, h => by
    refine bef_closed hc post (pre ++ [o]) (acc ++ [maskOf acc o.after.toList 0]) (by simp [he]) (by simp [hl]) ?_
    intro j i hb hd
    by_cases hj : j < acc.length
    · refine h j i ?_ hd
      simpa [List.getD_eq_getElem?_getD, List.getElem?_append_left hj] using hb
    · by_cases hj' : j = acc.length
      · subst hj'
        simp only [List.getD_eq_getElem?_getD, List.getElem?_concat_length, Option.getD_some] at hb
        rcases maskOf_bit hb with hz | ⟨e, hm, hbd, hi⟩
        · simp at hz
        · have hon := hc _ o (by rw [he, hl]; simp) hd e (by simpa using hm) hbd
          rcases hi with rfl | hi
          · exact hon
          · exact h _ _ hi hon
      · have : (acc ++ [maskOf acc o.after.toList 0]).getD j 0 = 0 := by
          rw [List.getD_eq_getElem?_getD, List.getElem?_eq_none (by simp; omega)]; rfl
        rw [this] at hb; simp at hb
theorem mask_closed {ops : List Oper} {D : Nat → Bool} (hc : Closed ops D) {j i : Nat} (h : ((bef ops []).getD j 0).testBit i = true) (hd : D j = true) : D i = true :=
  bef_closed hc ops [] [] rfl rfl (by simp) j i h hd

theorem Gam.drew {G : IH} {F : Nat → Prop} {w0 : World} {h0 : IH} {st : AS} {β : Nat → Nat} {h : IH} {tm : Array Value} {w : World}
    (g : Gam G F w0 h0 st β h tm w) (n : Nat) : Gam G F w0 h0 st β h tm { w with drawn := n } where
  glob := g.glob
  holds := g.holds
  ext := g.ext
  old := g.old
  kept := ⟨g.kept.os, g.kept.tape, g.kept.output, g.kept.size, g.kept.block⟩
  size := g.size
  regs := g.regs
  box := g.box
  inj := g.inj

theorem filter_lt {p q : Nat → Bool} : ∀ {l : List Nat} {i : Nat}, (∀ x, q x = true → p x = true) → i ∈ l → p i = true → q i = false → (l.filter q).length < (l.filter p).length
  | [], _, _, h, _, _ => by simp at h
  | y :: l, i, hpq, hi, hp, hq => by
    have hle : ∀ l : List Nat, (l.filter q).length ≤ (l.filter p).length := by
      intro l
      induction l with
      | nil => simp
      | cons z l ih =>
        simp only [List.filter_cons]
        cases hqz : q z with
        | true => simp [hpq z hqz, ih]
        | false => cases p z <;> simp <;> omega
    simp only [List.mem_cons] at hi
    simp only [List.filter_cons]
    rcases hi with rfl | hi
    · simp only [hp, hq, ↓reduceIte, List.length_cons, Bool.false_eq_true]
      have := hle l; omega
    · have := filter_lt (l := l) hpq hi hp hq
      cases hqz : q y with
      | true => simp only [hpq y hqz, ↓reduceIte, List.length_cons]; omega
      | false => cases p y <;> simp <;> omega

section region
variable {P : Program} {G : IH} {ops : List Oper} {evs : List Ev} {st0 : AS}
/-- The state ahead of operation i, in the text's order. -/
def ahead (evs : List Ev) (st0 : AS) (i : Nat) : AS := fold (fun j => Nat.blt j i) 0 evs st0

variable (hlen : evs.length = ops.length)
  (hOK : ∀ (i : Nat) (o : Oper) (e : Ev), ops[i]? = some o → evs[i]? = some e → OpOK P G ops o (ahead evs st0 i) e)
include hlen hOK

theorem region_step {D : Nat → Bool} (hc : Closed ops D) (hord : orderOK ops evs = true) (hfr : freshOK st0 evs = true)
    {i : Nat} {o : Oper} {e : Ev} (ho : ops[i]? = some o) (he : evs[i]? = some e) (hD : D i = false)
    (hpre : ∀ e ∈ o.after, Region.binds .any e = true → D e.on = true)
    {F : Nat → Prop} {w0 : World} {h0 : IH} {β : Nat → Nat} {h : IH} {a : Act} {w : World} {K : Act → World → Prop} {Q : Exit → Act → World → Prop}
    (g : Gam G F w0 h0 (fold D 0 evs st0) β h a.tmps w) (hd : a.defers = [])
    (hK : ∀ (a' : Act) (w' : World) (β' : Nat → Nat) (h' : IH), a'.defers = [] → Gam G F w0 h0 (fold (fun j => D j || Nat.beq j i) 0 evs st0) β' h' a'.tmps w' → K a' w') :
    if Region.wanted o (yielded ops.toArray a.tmps) then o.wp P a w K Q else K (a.put o.dst undef) w := by
  simp only [orderOK, Bool.and_eq_true] at hord
  have hpair : ∀ {p q : Nat} {x y : Oper × Ev}, p < q → (ops.zip evs)[p]? = some x → (ops.zip evs)[q]? = some y → pairOK ops (bef ops []) p x q y = true := fun hpq hx hy => by
    have := allPairs_get hord.2 hpq hx hy
    simpa using this
  have hz : ∀ {j : Nat} {e' : Ev}, evs[j]? = some e' → ∃ o', ops[j]? = some o' ∧ (ops.zip evs)[j]? = some (o', e') := by
    intro j e' he'
    have hj : j < ops.length := by rw [← hlen]; exact (List.getElem?_eq_some_iff.1 he').1
    exact ⟨ops[j], by simp [hj], by simp [List.getElem?_zip_eq_some, hj, he']⟩
  have hzi : (ops.zip evs)[i]? = some (o, e) := by simp [List.getElem?_zip_eq_some, ho, he]
  have hc' : Closed ops (fun j => D j || Nat.beq j i) := by
    intro j o' ho' hj e' he' hb
    simp only [Bool.or_eq_true] at hj ⊢
    rcases hj with hj | hj
    · exact .inl (hc j o' ho' hj e' he' hb)
    · have : j = i := Nat.eq_of_beq_eq_true hj
      subst this
      rw [ho] at ho'; injection ho' with ho'; subst ho'
      exact .inl (hpre e' he' hb)
  -- what writes where the operation looks: exactly what stands ahead of it in the text has been done
  have key : ∀ (p : Loc) (j : Nat) (e' : Ev), j ≠ i → evs[j]? = some e' → (touches ops o e p = true ∧ e'.wr p = true) → D j = Nat.blt j i := by
    intro p j e' hne he' ⟨ht, hw⟩
    obtain ⟨o', ho', hz'⟩ := hz he'
    have hclash : clash1 e' (looks ops o e) = true := by
      simp only [touches, List.any_eq_true, Ev.wr] at ht hw
      obtain ⟨y, hy, hyp⟩ := ht
      obtain ⟨x, hx, hxp⟩ := hw
      simp only [clash1, List.any_eq_true]
      exact ⟨x, hx, y, hy, Loc.hits_common hxp hyp⟩
    rcases Nat.lt_or_gt_of_ne hne with hlt | hgt
    · have hp := hpair hlt hz' hzi
      simp only [pairOK, clash, hclash, Bool.true_or, Bool.not_true, Bool.false_or, Bool.and_eq_true] at hp
      have hDj : (fun j => D j || Nat.beq j i) j = true := mask_closed hc' hp.1.1 (by simp)
      simp only [beq_ne hne, Bool.or_false] at hDj
      rw [hDj]; symm; rw [Nat.blt_eq]; exact hlt
    · have hp := hpair hgt hzi hz'
      simp only [pairOK, clash, hclash, Bool.or_true, Bool.not_true, Bool.false_or, Bool.and_eq_true] at hp
      cases hDj : D j with
      | false => symm; cases hb : Nat.blt j i with
        | false => rfl
        | true => rw [Nat.blt_eq] at hb; omega
      | true =>
        have := mask_closed hc hp.1.1 hDj
        rw [hD] at this; cases this
  have agree : ∀ p, touches ops o e p = true → (fold D 0 evs st0).at_ p = (ahead evs st0 i).at_ p := by
    intro p hp
    refine fold_at 0 evs _ _ rfl fun j e' he' hw => ?_
    simp only [Nat.zero_add]
    by_cases hj : j = i
    · subst hj
      rw [hD]; symm; cases hb : Nat.blt j j with
        | false => rfl
        | true => rw [Nat.blt_eq] at hb; omega
    · exact key p j e' hj he' ⟨hp, hw⟩
  refine hOK i o e ho he F w0 h0 (fold D 0 evs st0) β h a w K Q ?_ agree ?_ g hd ?_
  · simp [ahead, fold_length]
  · intro b hb
    refine fold_free 0 evs st0 ?_ fun j e' he' hDj => ?_
    · simp only [freshOK, List.all_eq_true] at hfr
      exact hfr e (List.mem_of_getElem? he) b hb
    · simp only [Nat.zero_add] at hDj
      obtain ⟨o', ho', hz'⟩ := hz he'
      have hne : j ≠ i := by rintro rfl; rw [hD] at hDj; cases hDj
      rcases Nat.lt_or_gt_of_ne hne with hlt | hgt
      · have hp := hpair hlt hz' hzi
        simp only [pairOK, Bool.and_eq_true, List.all_eq_true] at hp
        exact hp.2 b hb
      · have hp := hpair hgt hzi hz'
        simp only [pairOK, Bool.and_eq_true, List.all_eq_true] at hp
        have := hp.1.2 b hb
        simp only [Bool.or_eq_true] at this
        rcases this with h1 | h1
        · exact h1
        · have := mask_closed hc h1 hDj
          rw [hD] at this; cases this
  · intro a' w' β' h' hd' g'
    refine hK a' w' β' h' hd' (g'.congr ?_ ?_)
    · rw [length_app, fold_length, fold_length]
    · intro p
      cases hw : e.wr p with
      | false =>
        rw [at_app_other e _ hw]
        refine fold_at 0 evs _ _ rfl fun j e' he' hw' => ?_
        simp only [Nat.zero_add]
        have hne : j ≠ i := by rintro rfl; rw [he] at he'; injection he' with he'; subst he'; rw [hw] at hw'; cases hw'
        rw [beq_ne hne, Bool.or_false]
      | true =>
        have ht := touches_wr (ops := ops) (o := o) hw
        rw [at_app_congr e (agree p ht)]
        -- both sides: the text's order up to and with operation i
        have hsplit : ∀ (es : List Ev) (k : Nat) (st : AS), (∀ e', es[i - k]? = some e' → k ≤ i → e' = e) → k ≤ i → i - k < es.length →
            (e.app (fold (fun j => Nat.blt j i) k es st)).at_ p = (fold (fun j => Nat.blt j (i + 1)) k es st).at_ p := by
          intro es
          induction es with
          | nil => intro k st _ _ hlt; simp at hlt
          | cons x es ih =>
            intro k st hx hk hlt
            simp only [fold]
            by_cases hki : k = i
            · subst hki
              have hxe : x = e := hx x (by simp) (Nat.le_refl _)
              subst hxe
              have h1 : Nat.blt k k = false := by cases hb : Nat.blt k k with
                | false => rfl
                | true => rw [Nat.blt_eq] at hb; omega
              have h2 : Nat.blt k (k + 1) = true := by rw [Nat.blt_eq]; omega
              simp only [h1, h2, cond_true, cond_false]
              have hno : ∀ (m : Nat) (es : List Ev) (st : AS), k < m → fold (fun j => Nat.blt j k) m es st = st ∧ fold (fun j => Nat.blt j (k + 1)) m es st = st := by
                intro m es
                induction es generalizing m with
                | nil => intro st _; exact ⟨rfl, rfl⟩
                | cons z es ihz =>
                  intro st hm
                  have h3 : Nat.blt m k = false := by cases hb : Nat.blt m k with
                    | false => rfl
                    | true => rw [Nat.blt_eq] at hb; omega
                  have h4 : Nat.blt m (k + 1) = false := by cases hb : Nat.blt m (k + 1) with
                    | false => rfl
                    | true => rw [Nat.blt_eq] at hb; omega
                  simp only [fold, h3, h4, cond_false]
                  exact ihz (m + 1) st (by omega)
              rw [(hno (k + 1) es st (by omega)).1, (hno (k + 1) es _ (by omega)).2]
            · have h1 : Nat.blt k i = true := by rw [Nat.blt_eq]; omega
              have h2 : Nat.blt k (i + 1) = true := by rw [Nat.blt_eq]; omega
              simp only [h1, h2, cond_true]
              refine ih (k + 1) _ (fun e' he' hk' => hx e' ?_ hk) (by omega) (by simp at hlt; omega)
              rw [show i - k = (i - (k + 1)) + 1 from by omega]
              simpa using he'
        rw [ahead, hsplit evs 0 st0 (fun e' he' _ => by simp only [Nat.sub_zero] at he'; rw [he] at he'; injection he' with he'; exact he'.symm) (Nat.zero_le _)
          (by have := (List.getElem?_eq_some_iff.1 he).1; simpa using this)]
        refine fold_at 0 evs _ _ rfl fun j e' he' hw' => ?_
        simp only [Nat.zero_add]
        by_cases hj : j = i
        · subst hj; simp only [beq_self, Bool.or_true]; rw [Nat.blt_eq]; omega
        · rw [beq_ne hj, Bool.or_false, key p j e' hj he' ⟨ht, hw'⟩]
          cases hb : Nat.blt j i with
          | true => rw [Nat.blt_eq] at hb ⊢; omega
          | false => cases hb' : Nat.blt j (i + 1) with
            | false => rfl
            | true =>
              rw [Nat.blt_eq] at hb'
              have : ¬ j < i := by intro hlt; rw [← Nat.blt_eq, hb] at hlt; cases hlt
              omega
end region
end Go.Ab
