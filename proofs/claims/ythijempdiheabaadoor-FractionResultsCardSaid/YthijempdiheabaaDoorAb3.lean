import Derived.Test.YthijempdiheabaaDoorAb2
set_option autoImplicit false
namespace Go.Ab
open Go Go.RowKit

def runE : List Ev → AS → AS
  | [], st => st
  | e :: es, st => runE es (e.app st)
theorem fold_all : ∀ (i : Nat) (es : List Ev) (st : AS) {D : Nat → Bool}, (∀ j, i ≤ j → j < i + es.length → D j = true) → fold D i es st = runE es st
  | _, [], _, _, _ => rfl
  | i, e :: es, st, D, h => by
    simp only [fold, runE, h i (Nat.le_refl _) (by simp), cond_true]
    exact fold_all (i + 1) es _ fun j hj hj' => h j (by omega) (by simp; omega)
theorem fold_none : ∀ (i : Nat) (es : List Ev) (st : AS) {D : Nat → Bool}, (∀ j, i ≤ j → D j = false) → fold D i es st = st
  | _, [], _, _, _ => rfl
  | i, e :: es, st, D, h => by
    simp only [fold, h i (Nat.le_refl _), cond_false]
    exact fold_none (i + 1) es _ fun j hj => h j (by omega)
theorem fold_take (n : Nat) : ∀ (i : Nat) (es : List Ev) (st : AS), i ≤ n → fold (fun j => Nat.blt j n) i es st = runE (es.take (n - i)) st
  | _, [], _, _ => by simp [fold, runE]
  | i, e :: es, st, h => by
    by_cases hi : i = n
    · subst hi
      rw [Nat.sub_self, List.take_zero]
      exact fold_none i (e :: es) st fun j hj => by
        cases hb : Nat.blt j i with
        | false => rfl
        | true => rw [Nat.blt_eq] at hb; omega
    · have h1 : Nat.blt i n = true := by rw [Nat.blt_eq]; omega
      simp only [fold, h1, cond_true]
      rw [fold_take n (i + 1) es _ (by omega), show n - i = (n - (i + 1)) + 1 from by omega, List.take_succ_cons]
      rfl
theorem ahead_eq (evs : List Ev) (st0 : AS) (i : Nat) : ahead evs st0 i = runE (evs.take i) st0 := by
  unfold ahead; simpa using fold_take i 0 evs st0 (Nat.zero_le _)

/-- Each operation of the region does what its event says, in the text's order. -/
def StepsOK (P : Program) (G : IH) (all : List Oper) : List Oper → List Ev → AS → Prop
  | [], es, _ => es = []
  | o :: os, es, st => ∃ e es', es = e :: es' ∧ OpOK P G all o st e ∧ StepsOK P G all os es' (e.app st)
theorem StepsOK.length {P : Program} {G : IH} {all : List Oper} : ∀ {l : List Oper} {es : List Ev} {st : AS}, StepsOK P G all l es st → es.length = l.length
  | [], _, _, h => by simp only [StepsOK] at h; simp [h]
  | _ :: _, _, _, ⟨_, _, e, _, hs⟩ => by rw [e]; simp [StepsOK.length hs]
theorem StepsOK.get {P : Program} {G : IH} {all : List Oper} : ∀ {l : List Oper} {es : List Ev} {st : AS}, StepsOK P G all l es st →
    ∀ {i : Nat} {o : Oper} {e : Ev}, l[i]? = some o → es[i]? = some e → OpOK P G all o (runE (es.take i) st) e
  | [], _, _, _, _, _, _, ho, _ => by simp at ho
  | _ :: _, _, _, ⟨e', es', he', hop, hs⟩, i, o, e, ho, he => by
    subst he'
    cases i with
    | zero => simp at ho he; subst ho he; simpa [runE] using hop
    | succ i =>
      simp only [List.take_succ_cons, runE]
      exact StepsOK.get hs (by simpa using ho) (by simpa using he)

section
variable {P : Program} {G : IH} {ops : List Oper} {evs : List Ev} {st0 : AS}

theorem wp_or {o : Oper} {a : Act} {w : World} {K : Act → World → Prop} {Q : Exit → Act → World → Prop} {c : Prop} [Decidable c]
    (h : if c then o.wp P a w K Q else K (a.put o.dst undef) w) : if c then o.wp P a w K Q ∨ (o.asks P a w ∧ LetsOut Q) else K (a.put o.dst undef) w := by
  split at h
  · rename_i hc; rw [if_pos hc]; exact .inl h
  · rename_i hc; rw [if_neg hc]; exact h

/-- The text's order. -/
theorem seq_sound (all : List Oper) : ∀ (l : List Oper) (es : List Ev) (st : AS) (k : Nat), (∀ j, l[j]? = all[k + j]?) → StepsOK P G all l es st →
    ∀ {F : Nat → Prop} {w0 : World} {h0 : IH} {β : Nat → Nat} {h : IH} {a : Act} {w : World} {Q : Exit → Act → World → Prop},
    (∀ (i : Nat) (e : Ev), es[i]? = some e → ∀ b ∈ e.nw, (runE (es.take i) st).free b.1 = true) →
    Gam G F w0 h0 st β h a.tmps w → a.defers = [] →
    (∀ (a' : Act) (w' : World) (β' : Nat → Nat) (h' : IH), a'.defers = [] → Gam G F w0 h0 (runE es st) β' h' a'.tmps w' → Q .normal a' w') →
    wpOps P all.toArray Q (List.range' k l.length) a w
  | [], es, st, k, _, hs, F, w0, h0, β, h, a, w, Q, _, g, hd, hQ => by
    simp only [StepsOK] at hs; subst hs
    simpa [wpOps] using hQ a w β h hd g
  | o :: l, es, st, k, hk, ⟨e, es', hes, hop, hs⟩, F, w0, h0, β, h, a, w, Q, hf, g, hd, hQ => by
    subst hes
    simp only [List.length_cons, List.range'_succ]
    rw [wpOps_cons]
    have ho : all.toArray[k]? = some o := by simpa using (hk 0).symm
    simp only [wpOp, ho]
    refine wp_or (hop F w0 h0 st β h a w _ Q rfl (fun _ _ => rfl) (fun b hb => by simpa [runE] using hf 0 e rfl b hb) g hd ?_)
    intro a' w' β' h' hd' g'
    exact seq_sound all l es' (e.app st) (k + 1) (fun j => by have := hk (j + 1); simpa [Nat.add_assoc, Nat.add_comm 1 j] using this) hs
      (fun i e' he' b hb => by have := hf (i + 1) e' (by simpa using he') b hb; simpa [runE] using this) g' hd' hQ

theorem ready_mem {listed : Array Bool} {i : Nat} (h : i ∈ Region.ready .any ops.toArray listed) :
    i < ops.length ∧ listed.getD i true = false ∧ ∃ o, ops[i]? = some o ∧ ∀ e ∈ o.after, Region.binds .any e = true → listed.getD e.on false = true := by
  simp only [Region.ready, List.mem_filter, List.mem_range, Bool.and_eq_true] at h
  obtain ⟨h1, h2, h3⟩ := h
  have h1 : i < ops.length := by simpa using h1
  refine ⟨h1, by simpa using h2, ops[i], by simp [h1], ?_⟩
  simp only [List.getElem?_toArray, List.getElem?_eq_getElem h1, Option.map_some, Option.getD_some, Array.all_eq_true_iff_forall_mem] at h3
  intro e he hb
  have := h3 e he
  rw [hb] at this
  simpa using this
theorem ready_nil {listed : Array Bool} (hb : backOK 0 ops = true) (h : Region.ready .any ops.toArray listed = []) :
    ∀ i, i < ops.length → listed.getD i true = true := by
  intro i
  induction i using Nat.strongRecOn with
  | _ i ih =>
    intro hi
    cases hl : listed.getD i true with
    | true => rfl
    | false =>
      exfalso
      have hm : i ∈ Region.ready .any ops.toArray listed := by
        simp only [Region.ready, List.mem_filter, List.mem_range, Bool.and_eq_true]
        refine ⟨by simpa using hi, by simpa using hl, ?_⟩
        simp only [List.getElem?_toArray, List.getElem?_eq_getElem hi, Option.map_some, Option.getD_some, Array.all_eq_true_iff_forall_mem]
        intro e he
        cases hbd : Region.binds .any e with
        | false => rfl
        | true =>
          have hon := backOK_get hb (k := i) (o := ops[i]) (by simp [hi]) e he hbd
          have := ih e.on (by omega) (by omega)
          by_cases hs : e.on < listed.size
          · simp only [Array.getD_eq_getD_getElem?, Array.getElem?_eq_getElem hs, Option.getD_some] at this ⊢
            simp [this]
          · exfalso
            have hs' : ¬ i < listed.size := by omega
            simp only [Array.getD_eq_getD_getElem?, Array.getElem?_eq_none (Nat.le_of_not_lt hs'), Option.getD_none] at hl
            cases hl
      rw [h] at hm; simp at hm
end
theorem any_sound {P : Program} {G : IH} {ops : List Oper} {evs : List Ev} {st0 : AS} (hs : StepsOK P G ops ops evs st0) (hord : orderOK ops evs = true) (hfr : freshOK st0 evs = true)
    {F : Nat → Prop} {w0 : World} {h0 : IH} {Q : Exit → Act → World → Prop}
    (hQ : ∀ (a' : Act) (w' : World) (β' : Nat → Nat) (h' : IH), a'.defers = [] → Gam G F w0 h0 (runE evs st0) β' h' a'.tmps w' → Q .normal a' w') :
    ∀ (fuel : Nat) (listed : Array Bool) (β : Nat → Nat) (h : IH) (a : Act) (w : World), listed.size = ops.length → Closed ops (fun j => listed.getD j false) →
      ((List.range ops.length).filter fun i => !listed.getD i true).length ≤ fuel →
      Gam G F w0 h0 (fold (fun j => listed.getD j false) 0 evs st0) β h a.tmps w → a.defers = [] → wpAny P .any ops.toArray Q fuel listed a w := by
  have hlen := hs.length
  have hback : backOK 0 ops = true := by simp only [orderOK, Bool.and_eq_true] at hord; exact hord.1
  have hend : ∀ (listed : Array Bool) (β : Nat → Nat) (h : IH) (a : Act) (w : World), listed.size = ops.length → (∀ i, i < ops.length → listed.getD i true = true) →
      Gam G F w0 h0 (fold (fun j => listed.getD j false) 0 evs st0) β h a.tmps w → a.defers = [] → Q .normal a w := by
    intro listed β h a w hsz hall g hd
    refine hQ a w β h hd ?_
    rwa [fold_all 0 evs st0 (fun j _ hj => ?_)] at g
    have hj' : j < listed.size := by omega
    have := hall j (by omega)
    simpa [Array.getD_eq_getD_getElem?, Array.getElem?_eq_getElem hj'] using this
  intro fuel
  induction fuel with
  | zero =>
    intro listed β h a w hsz hc hcount g hd
    have hnil : ((List.range ops.length).filter fun i => !listed.getD i true) = [] := List.eq_nil_of_length_eq_zero (by omega)
    have hall : ∀ i, i < ops.length → listed.getD i true = true := by
      intro i hi
      have := List.filter_eq_nil_iff.1 hnil i (by simpa using hi)
      simpa using this
    refine ⟨?_, hend listed β h a w hsz hall g hd⟩
    simp only [Region.ready, List.filter_eq_nil_iff]
    intro i hi
    have := hall i (by simpa using hi)
    simp [this]
  | succ fuel ih =>
    intro listed β h a w hsz hc hcount g hd
    refine ⟨fun hr => hend listed β h a w hsz (ready_nil hback hr) g hd, fun i hi => ?_⟩
    obtain ⟨hlt, hli, o, ho, hpre⟩ := ready_mem hi
    have he : ∃ e, evs[i]? = some e := ⟨evs[i]'(by omega), by simp⟩
    obtain ⟨e, he⟩ := he
    have hi' : i < listed.size := by omega
    have hD : (fun j => listed.getD j false) i = false := by
      simpa [Array.getD_eq_getD_getElem?, Array.getElem?_eq_getElem hi'] using hli
    have hset : (fun j => (listed.setIfInBounds i true).getD j false) = fun j => listed.getD j false || Nat.beq j i := by
      funext j
      by_cases hj : j = i
      · subst hj; simp [Array.getD_eq_getD_getElem?, hi']
      · rw [beq_ne hj]; simp [Array.getD_eq_getD_getElem?, Array.getElem?_setIfInBounds_ne (Ne.symm hj)]
    have hop : ops.toArray[i]? = some o := by simpa using ho
    simp only [wpOp, hop]
    refine wp_or (region_step hlen (fun i o e ho he => by rw [ahead_eq]; exact hs.get ho he) hc hord hfr ho he hD hpre g hd ?_)
    intro a' w' β' h' hd' g'
    refine ih (listed.setIfInBounds i true) β' h' a' w' (by simpa using hsz) ?_ ?_ (by rw [hset]; exact g') hd'
    · rw [hset]
      intro j o' ho' hj e' he' hb
      simp only [Bool.or_eq_true] at hj ⊢
      rcases hj with hj | hj
      · exact .inl (hc j o' ho' hj e' he' hb)
      · have : j = i := Nat.eq_of_beq_eq_true hj
        subst this
        rw [ho] at ho'; injection ho' with ho'; subst ho'
        exact .inl (hpre e' he' hb)
    · have : ((List.range ops.length).filter fun k => !(listed.setIfInBounds i true).getD k true).length < ((List.range ops.length).filter fun k => !listed.getD k true).length := by
        refine filter_lt (i := i) ?_ (by simpa using hlt) (by simp [hli]) (by simp [Array.getD_eq_getD_getElem?, hi'])
        intro k hk
        by_cases hki : k = i
        · subst hki; simp [hli]
        · simpa [Array.getD_eq_getD_getElem?, Array.getElem?_setIfInBounds_ne (Ne.symm hki)] using hk
      omega

def freshPairs : List Ev → Bool
  | [] => true
  | e :: es => (es.all fun y => y.nw.all fun b => e.free b.1) && freshPairs es
theorem freshPairs_get : ∀ {es : List Ev}, freshPairs es = true → ∀ {p q : Nat} {x y : Ev}, p < q → es[p]? = some x → es[q]? = some y → ∀ b ∈ y.nw, x.free b.1 = true
  | [], _, _, _, _, _, _, h, _ => by simp at h
  | e :: es, hp, p, q, x, y, hpq, hx, hy => by
    simp only [freshPairs, Bool.and_eq_true, List.all_eq_true] at hp
    cases q with
    | zero => omega
    | succ q =>
      cases p with
      | zero =>
        simp at hx; subst hx
        exact hp.1 y (List.mem_of_getElem? (by simpa using hy))
      | succ p => exact freshPairs_get hp.2 (p := p) (q := q) (by omega) (by simpa using hx) (by simpa using hy)
def regionOK (draw : Bool) (ops : List Oper) (evs : List Ev) (st : AS) : Bool :=
  freshOK st evs && match draw with | true => orderOK ops evs | false => freshPairs evs

/-- A region, whether it draws its order or not: the state behind it. -/
theorem region_sound {P : Program} {G : IH} {ops : List Oper} {evs : List Ev} {st : AS} {id : Nat} {draw : Bool} (hm : P.follows .mixedOrders = true)
    (hs : StepsOK P G ops ops evs st) (hok : regionOK draw ops evs st = true)
    {F : Nat → Prop} {w0 : World} {h0 : IH} {β : Nat → Nat} {h : IH} {a : Act} {w : World} {Q : Exit → Act → World → Prop}
    (g : Gam G F w0 h0 st β h a.tmps w) (hd : a.defers = [])
    (hQ : ∀ (a' : Act) (w' : World) (β' : Nat → Nat) (h' : IH), a'.defers = [] → Gam G F w0 h0 (runE evs st) β' h' a'.tmps w' → Q .normal a' w') :
    (Code.region id ops.toArray draw).wp P Q a w := by
  simp only [regionOK, Bool.and_eq_true] at hok
  obtain ⟨hfr, hord⟩ := hok
  cases draw with
  | true =>
    refine wp_region_any hm (any_sound hs hord hfr hQ _ _ β h a _ (by simp) ?_ ?_ ?_ hd)
    · intro j o _ hj
      simp [Array.getD_eq_getD_getElem?, Array.getElem?_replicate] at hj
      split at hj <;> simp at hj
    · refine Nat.le_trans (List.length_filter_le _ _) (by simp)
    · rw [fold_none]
      · exact g.drew _
      · intro j _
        simp [Array.getD_eq_getD_getElem?, Array.getElem?_replicate]
        split <;> rfl
  | false =>
    refine wp_region ?_
    have := seq_sound (Q := Q) ops ops evs st 0 (by simp) hs (F := F) (w0 := w0) (h0 := h0) (β := β) (h := h) (a := a) (w := w) ?_ g hd hQ
    · simpa [List.range_eq_range'] using this
    · intro i e he b hb
      rw [← ahead_eq]
      refine fold_free 0 evs st ?_ fun j e' he' hj => ?_
      · simp only [freshOK, List.all_eq_true] at hfr
        exact hfr e (List.mem_of_getElem? he) b hb
      · simp only [Nat.zero_add, Nat.blt_eq] at hj
        exact freshPairs_get hord hj he' he b hb
end Go.Ab
