import Derived.Test.YthijempdiheabaaDoorAb11
set_option autoImplicit false
namespace Go.Ab
open Go Go.RowKit

/-- The operations of a region, in the text's order: what must hold, what each does, and the state behind them. -/
def evalOps (P : Program) (G : IH) (orc : Oracle) (all : List Oper) : List Oper → AS → Option (List Prop × List Ev × AS)
  | [], st => some ([], [], st)
  | o :: os, st => match evalG P G orc all o st with
    | some (cs, e) => match evalOps P G orc all os (e.app st) with
      | some (ds, es, st') => some (cs ++ ds, e :: es, st')
      | none => none
    | none => none
def noGate : AV → AV
  | .gate .. => .any
  | x => x
/-- What only some ways laid is forgotten. -/
def AS.clear (st : AS) : AS := ⟨st.regs.map noGate, st.boxes⟩
theorem clear_good (st : AS) : Good st.clear := by
  intro t s w b x h
  simp only [AS.clear, List.getElem?_map] at h
  cases hr : st.regs[t]? with
  | none => simp [hr] at h
  | some y => rw [hr] at h; simp only [Option.map_some, Option.some.injEq] at h; cases y <;> simp [noGate] at h
def evalRegion (P : Program) (G : IH) (orc : Oracle) (draw : Bool) (ops : List Oper) (st : AS) : Option (List Prop × AS) :=
  match evalOps P G orc ops ops st.clear with
  | some (cs, es, st') => match regionOK draw ops es st.clear with
    | true => some (cs, st')
    | false => none
  | none => none
theorem Gam.clear {G : IH} {F : Nat → Prop} {w0 : World} {h0 : IH} {st : AS} {β : Nat → Nat} {h : IH} {tm : Array Value} {w : World} (g : Gam G F w0 h0 st β h tm w) : Gam G F w0 h0 st.clear β h tm w :=
  ⟨g.glob, g.holds, g.ext, g.old, g.kept, by simpa [AS.clear] using g.size, fun t x hx => by
    simp only [AS.clear, List.getElem?_map] at hx
    cases hr : st.regs[t]? with
    | none => simp [hr] at hx
    | some y =>
      rw [hr] at hx
      simp only [Option.map_some, Option.some.injEq] at hx
      obtain ⟨v, hv, hy⟩ := g.regs t y hr
      refine ⟨v, hv, ?_⟩
      subst hx
      cases y <;> first | exact hy | trivial, g.box, g.inj⟩
section
variable {P : Program} {G : IH} {orc : Oracle}
theorem evalOps_ok {all : List Oper} : ∀ {os : List Oper} {st : AS} {cs : List Prop} {es : List Ev} {st' : AS}, evalOps P G orc all os st = some (cs, es, st') → Good st → (∀ c ∈ cs, c) → StepsOK P G all os es st ∧ st' = runE es st
  | [], st, cs, es, st', h, _, _ => by
    simp only [evalOps, Option.some.injEq, Prod.mk.injEq] at h
    obtain ⟨rfl, rfl, rfl⟩ := h
    exact ⟨rfl, rfl⟩
  | o :: os, st, cs, es, st', h, hg, hc => by
    simp only [evalOps] at h
    split at h
    · rename_i cs1 e he
      split at h
      · rename_i ds es' st'' hos
        simp only [Option.some.injEq, Prod.mk.injEq] at h
        obtain ⟨rfl, rfl, rfl⟩ := h
        obtain ⟨h1, h2⟩ := evalOps_ok hos (evalG_good he hg) fun c hc' => hc c (List.mem_append_right _ hc')
        exact ⟨⟨e, es', rfl, evalG_ok hg he fun c hc' => hc c (List.mem_append_left _ hc'), h1⟩, h2⟩
      · cases h
    · cases h
theorem evalRegion_ok {draw : Bool} {ops : List Oper} {st st' : AS} {cs : List Prop} (hm : P.follows .mixedOrders = true) (h : evalRegion P G orc draw ops st = some (cs, st')) (hc : ∀ c ∈ cs, c) {id : Nat}
    {F : Nat → Prop} {w0 : World} {h0 : IH} {β : Nat → Nat} {k : IH} {a : Act} {w : World} {Q : Exit → Act → World → Prop} (g : Gam G F w0 h0 st β k a.tmps w) (hd : a.defers = [])
    (hQ : ∀ (a' : Act) (w' : World) (β' : Nat → Nat) (h' : IH), a'.defers = [] → Gam G F w0 h0 st' β' h' a'.tmps w' → Q .normal a' w') : (Code.region id ops.toArray draw).wp P Q a w := by
  unfold evalRegion at h
  split at h
  · rename_i cs' es st'' hos
    split at h
    · rename_i hok
      simp only [Option.some.injEq, Prod.mk.injEq] at h
      obtain ⟨rfl, rfl⟩ := h
      obtain ⟨h1, rfl⟩ := evalOps_ok hos (clear_good st) hc
      exact region_sound hm h1 hok (Gam.clear g) hd hQ
    · cases h
  · cases h
end

def keepL (ks : List Nat) : Nat → List AV → List AV
  | _, [] => []
  | i, x :: l => (bif ks.any (Nat.beq i) then x else .any) :: keepL ks (i + 1) l
/-- What nobody reads any more is forgotten. -/
def AS.keep (st : AS) (ks : List Nat) : AS := match ks with | [] => st | _ => ⟨keepL ks 0 st.regs, st.boxes⟩
theorem keepL_get (ks : List Nat) : ∀ (l : List AV) (i t : Nat), (keepL ks i l)[t]? = l[t]? ∨ (t < l.length ∧ (keepL ks i l)[t]? = some .any)
  | [], _, _ => .inl rfl
  | x :: l, i, t => by
    cases t with
    | zero =>
      simp only [keepL]
      cases ks.any (Nat.beq i)
      · exact .inr ⟨by simp, rfl⟩
      · exact .inl rfl
    | succ t =>
      simp only [keepL, List.getElem?_cons_succ, List.length_cons]
      rcases keepL_get ks l (i + 1) t with h | ⟨h1, h2⟩
      · exact .inl h
      · exact .inr ⟨by omega, h2⟩
theorem keepL_length (ks : List Nat) : ∀ (l : List AV) (i : Nat), (keepL ks i l).length = l.length
  | [], _ => rfl
  | _ :: l, i => by simp [keepL, keepL_length ks l]
theorem Gam.keep {G : IH} {F : Nat → Prop} {w0 : World} {h0 : IH} {st : AS} {β : Nat → Nat} {h : IH} {tm : Array Value} {w : World} (g : Gam G F w0 h0 st β h tm w) (ks : List Nat) : Gam G F w0 h0 (st.keep ks) β h tm w := by
  unfold AS.keep
  split
  · exact g
  · refine ⟨g.glob, g.holds, g.ext, g.old, g.kept, by simp only [keepL_length]; exact g.size, fun t x hx => ?_, g.box, g.inj⟩
    rcases keepL_get _ st.regs 0 t with h1 | ⟨h1, h2⟩
    · exact g.regs t x (by rw [← h1]; exact hx)
    · simp only at hx
      rw [h2] at hx
      simp only [Option.some.injEq] at hx; subst hx
      have : t < tm.size := by rw [g.size]; exact h1
      exact ⟨tm[t], by simp [this], trivial⟩

/-! ## Code -/
inductive It where
  | code (c : Code)
  | blk (id : Nat)
def wpS (P : Program) : List It → (Exit → Act → World → Prop) → Exit → Act → World → Prop
  | [], Q => Q
  | .code c :: k, Q => fun e a w => match e with | .normal => c.wp P (wpS P k Q) a w | e => wpS P k Q e a w
  | .blk id :: k, Q => fun e a w => match e with | .exit i => (if i = id then wpS P k Q .normal a w else wpS P k Q (.exit i) a w) | e => wpS P k Q e a w
/-- What is meant by an end of the walk. -/
def Ends (G : IH) (F : Nat → Prop) (w0 : World) (h0 : IH) (Q : Exit → AS → Prop) (e : Exit) (a : Act) (w : World) : Prop := ∃ st β h, Q e st ∧ Gam G F w0 h0 st β h a.tmps w ∧ a.defers = []
/-- From this state on the code comes to an end that 'Q' holds of. -/
def AWP (P : Program) (G : IH) (k : List It) (st : AS) (Q : Exit → AS → Prop) : Prop :=
  ∀ (F : Nat → Prop) (w0 : World) (h0 : IH) (β : Nat → Nat) (h : IH) (a : Act) (w : World), Gam G F w0 h0 st β h a.tmps w → a.defers = [] → wpS P k (Ends G F w0 h0 Q) .normal a w

def popTo (id : Nat) : List It → Option (List It)
  | [] => none
  | .code _ :: k => popTo id k
  | .blk i :: k => match Nat.beq i id with | true => some k | false => popTo id k
inductive Tree where
  | leaf (e : Exit) (st : AS)
  | br (b : Bool) (t f : Tree)
  | need (ps : List Prop) (t : Tree)
  | stop (k : List It) (st : AS)
  | bad (region : Nat)
def needs (cs : List Prop) (t : Tree) : Tree := match cs with | [] => t | c :: cs => .need (c :: cs) t
def cutAt (cuts : List Nat) : List It → Bool
  | .code (.region id _ _) :: _ => cuts.any (Nat.beq id)
  | .code (.seq (.region id _ _) _) :: _ => cuts.any (Nat.beq id)
  | .code (.loop _) :: _ => true
  | _ => false
/-- The walk through code, as far as it goes without a loop. -/
def evalT (P : Program) (G : IH) (orc : Oracle) (keep cuts : List Nat) : Nat → List It → AS → Tree
  | 0, k, st => .stop k st
  | n + 1, k, st => match cutAt cuts k with
    | true => .stop k st
    | false => match k with
      | [] => .leaf .normal st
      | .blk _ :: k => evalT P G orc keep cuts n k st
      | .code .skip :: k => evalT P G orc keep cuts n k st
      | .code (.label _) :: k => evalT P G orc keep cuts n k st
      | .code (.seq a b) :: k => evalT P G orc keep cuts n (.code a :: .code b :: k) st
      | .code (.block id c) :: k => evalT P G orc keep cuts n (.code c :: .blk id :: k) st
      | .code (.region id ops draw) :: k => match evalRegion P G orc draw ops.toList st with
        | some (cs, st') => needs cs (evalT P G orc keep cuts n k (st'.keep keep))
        | none => .bad id
      | .code (.cond x a b) :: k => match ungate (st.ev x) with
        | .d (.con (.bool y)) => match isGate (st.ev x) with
          | true => .bad 0
          | false => .br y (evalT P G orc keep cuts n (.code a :: k) st) (evalT P G orc keep cuts n (.code b :: k) st)
        | _ => .bad 1
      | .code (.exit id) :: k => match popTo id k with
        | some k' => evalT P G orc keep cuts n k' st
        | none => .leaf (.exit id) st
      | .code .ret :: _ => .leaf .ret st
      | .code c :: k => .stop (.code c :: k) st
def allP : List Prop → Prop
  | [] => True
  | [c] => c
  | c :: cs => c ∧ allP cs
theorem allP_mem : ∀ {cs : List Prop}, allP cs → ∀ c ∈ cs, c
  | [], _, _, h => by simp at h
  | [c], hc, d, h => by rw [List.mem_singleton.1 h]; exact hc
  | c :: c' :: cs, hc, d, h => by
    simp only [List.mem_cons] at h
    rcases h with rfl | h
    · exact hc.1
    · exact allP_mem hc.2 d (by simpa using h)
def Tree.ok (P : Program) (G : IH) (Q : Exit → AS → Prop) : Tree → Prop
  | .leaf e st => Q e st
  | .br b t f => (b = true → t.ok P G Q) ∧ (b = false → f.ok P G Q)
  | .need ps t => allP ps ∧ t.ok P G Q
  | .stop k st => AWP P G k st Q
  | .bad _ => False

section
variable {P : Program} {G : IH} {orc : Oracle} {Q : Exit → AS → Prop}
theorem wpS_out {k : List It} {R : Exit → Act → World → Prop} {e : Exit} {a : Act} {w : World} (he : (∀ id, e ≠ .exit id) ∧ e ≠ .normal) (h : R e a w) : wpS P k R e a w := by
  induction k with
  | nil => exact h
  | cons x k ih =>
    cases x with
    | code c => cases e <;> first | exact ih | (exact absurd rfl he.2)
    | blk id => cases e <;> first | exact ih | (exact absurd rfl (he.1 _))
theorem wpS_exit {R : Exit → Act → World → Prop} {id : Nat} {a : Act} {w : World} : ∀ {k : List It}, (match popTo id k with | some k' => wpS P k' R .normal a w | none => R (.exit id) a w) → wpS P k R (.exit id) a w
  | [], h => h
  | .code _ :: k, h => wpS_exit (k := k) h
  | .blk i :: k, h => by
    simp only [popTo] at h
    simp only [wpS]
    by_cases hi : id = i
    · subst hi; simp only [beq_self] at h; rw [if_pos rfl]; exact h
    · rw [beq_ne (Ne.symm hi)] at h; rw [if_neg hi]; exact wpS_exit (k := k) h
theorem Ends_normal_ok {F : Nat → Prop} {w0 : World} {h0 : IH} {e : Exit} {a : Act} {w : World} {st : AS} {β : Nat → Nat} {h : IH} (hq : Q e st) (g : Gam G F w0 h0 st β h a.tmps w) (hd : a.defers = []) : Ends G F w0 h0 Q e a w := ⟨st, β, h, hq, g, hd⟩
theorem wp_then {c : Code} {R R' : Exit → Act → World → Prop} {a : Act} {w : World} (h : c.wp P R a w) (hr : ∀ e a w, R e a w → R' e a w) : c.wp P R' a w := wp_mono h hr
theorem evalT_ok (hm : P.follows .mixedOrders = true) {keep cuts : List Nat} : ∀ (n : Nat) (k : List It) (st : AS), (evalT P G orc keep cuts n k st).ok P G Q → AWP P G k st Q
  | 0, _, _, h => h
  | n + 1, k, st, h => by
    unfold evalT at h
    split at h
    · exact h
    · rename_i hcut
      clear hcut
      split at h
      · exact fun F w0 h0 β h1 a w g hd => ⟨st, β, h1, h, g, hd⟩
      · exact fun F w0 h0 β h1 a w g hd => evalT_ok hm n _ st h F w0 h0 β h1 a w g hd
      · exact fun F w0 h0 β h1 a w g hd => wp_skip (evalT_ok hm n _ st h F w0 h0 β h1 a w g hd)
      · exact fun F w0 h0 β h1 a w g hd => wp_label (evalT_ok hm n _ st h F w0 h0 β h1 a w g hd)
      · intro F w0 h0 β h1 a w g hd
        refine wp_seq (wp_then (evalT_ok hm n _ st h F w0 h0 β h1 a w g hd) fun e a w he => ?_)
        cases e <;> exact he
      · intro F w0 h0 β h1 a w g hd
        refine wp_block (wp_then (evalT_ok hm n _ st h F w0 h0 β h1 a w g hd) fun e a w he => ?_)
        cases e <;> exact he
      · rename_i id ops draw k'
        split at h
        · rename_i cs st' hr
          have hcs : (∀ c ∈ cs, c) ∧ (evalT P G orc keep cuts n k' (st'.keep keep)).ok P G Q := by
            unfold needs at h
            split at h
            · exact ⟨by simp, h⟩
            · exact ⟨allP_mem h.1, h.2⟩
          intro F w0 h0 β h1 a w g hd
          have := evalRegion_ok (id := id) (Q := wpS P k' (Ends G F w0 h0 Q)) hm hr hcs.1 g hd fun a' w' β' h' hd' g' => evalT_ok hm n k' (st'.keep keep) hcs.2 F w0 h0 β' h' a' w' (Gam.keep g' keep) hd'
          simpa [wpS] using this
        · exact h.elim
      · rename_i x c1 c2 k'
        split at h
        · rename_i y hy
          split at h
          · exact h.elim
          · rename_i hng
            intro F w0 h0 β h1 a w g hd
            have hx := g.ev x
            have hy' : st.ev x = .d (.con (.bool y)) := by
              cases hs : st.ev x with
              | gate s w b z => rw [hs] at hng; simp [isGate] at hng
              | _ => rw [hs] at hy; exact hy
            rw [hy'] at hx
            refine wp_cond_split (t := y) hx (fun ht => ?_) fun hf => ?_
            · exact evalT_ok hm n _ st (h.1 ht) F w0 h0 β h1 a w g hd
            · exact evalT_ok hm n _ st (h.2 hf) F w0 h0 β h1 a w g hd
        · exact h.elim
      · rename_i id k'
        intro F w0 h0 β h1 a w g hd
        refine wp_exit (wpS_exit ?_)
        split at h
        · rename_i k2 hk; exact evalT_ok hm n k2 st h F w0 h0 β h1 a w g hd
        · exact ⟨st, β, h1, h, g, hd⟩
      · intro F w0 h0 β h1 a w g hd
        exact wp_ret (wpS_out ⟨by simp, by simp⟩ ⟨st, β, h1, h, g, hd⟩)
      · exact h

/-! A weaker state, and loops. -/
def leRegs : List AV → List AV → Prop
  | [], [] => True
  | x :: l, y :: m => (match y with | .any => leRegs l m | y => x = y ∧ leRegs l m)
  | _, _ => False
theorem leRegs_spec : ∀ {l m : List AV}, leRegs l m → l.length = m.length ∧ ∀ (t : Nat) (y : AV), m[t]? = some y → y = .any ∨ l[t]? = some y
  | [], [], _ => ⟨rfl, fun t y h => by simp at h⟩
  | x :: l, y :: m, h => by
    have : (y = .any ∨ x = y) ∧ leRegs l m := by
      unfold leRegs at h
      split at h
      · exact ⟨.inl rfl, h⟩
      · exact ⟨.inr h.1, h.2⟩
    obtain ⟨h1, h2⟩ := this
    obtain ⟨h3, h4⟩ := leRegs_spec h2
    refine ⟨by simp [h3], fun t z hz => ?_⟩
    cases t with
    | zero =>
      simp at hz; subst hz
      rcases h1 with h1 | h1
      · exact .inl h1
      · exact .inr (by simp [h1])
    | succ t => simpa using h4 t z (by simpa using hz)
  | [], _ :: _, h => h.elim
  | _ :: _, [], h => h.elim
def leBoxes (b : List (Nat × List AV)) : List (Nat × List AV) → Prop
  | [] => True
  | (s, l) :: r => look b s = some l ∧ leBoxes b r
theorem leBoxes_spec {b : List (Nat × List AV)} : ∀ {c : List (Nat × List AV)}, leBoxes b c → ∀ s l, look c s = some l → look b s = some l
  | [], _, _, _, h => by simp [look] at h
  | (k, m) :: r, hc, s, l, h => by
    simp only [look] at h
    by_cases hk : k = s
    · subst hk
      simp only [beq_self, cond_true, Option.some.injEq] at h
      subst h; exact hc.1
    · rw [beq_ne hk, cond_false] at h
      exact leBoxes_spec hc.2 s l h
def AS.le (st st' : AS) : Prop := leRegs st.regs st'.regs ∧ leBoxes st.boxes st'.boxes
theorem Gam.weaken {F : Nat → Prop} {w0 : World} {h0 : IH} {st st' : AS} {β : Nat → Nat} {h : IH} {tm : Array Value} {w : World} (g : Gam G F w0 h0 st β h tm w) (hl : st.le st') : Gam G F w0 h0 st' β h tm w := by
  obtain ⟨h1, h2⟩ := leRegs_spec hl.1
  have h3 := leBoxes_spec hl.2
  exact ⟨g.glob, g.holds, g.ext, g.old, g.kept, g.size.trans h1, fun t x hx => by
    rcases h2 t x hx with rfl | h
    · have hlt : t < tm.size := by rw [g.size, h1]; exact (List.getElem?_eq_some_iff.1 hx).1
      exact ⟨tm[t], by simp [hlt], trivial⟩
    · exact g.regs t x h, fun s l hb => g.box s l (h3 s l hb), fun s s' l l' hb hb' => g.inj s s' l l' (h3 s l hb) (h3 s' l' hb')⟩
theorem AWP.weaken {k : List It} {st st' : AS} (hl : st.le st') (h : AWP P G k st' Q) : AWP P G k st Q :=
  fun F w0 h0 β h1 a w g hd => h F w0 h0 β h1 a w (g.weaken hl) hd
/-- The temporaries of a state, the known ones alone named. -/
def known : List (Nat × AV) → Nat → AV
  | [], _ => .any
  | (k, x) :: r, i => bif Nat.beq k i then x else known r i
def regs (n : Nat) (l : List (Nat × AV)) : List AV := (List.range n).map (known l)
/-- Where a round that doesn't end as usual leads. -/
def outQ (P : Program) (G : IH) (k : List It) (Q : Exit → AS → Prop) : Exit → AS → Prop
  | .exit id, st => match popTo id k with | some k' => AWP P G k' st Q | none => Q (.exit id) st
  | e, st => Q e st
theorem outQ_ok {k : List It} {F : Nat → Prop} {w0 : World} {h0 : IH} {e : Exit} {a : Act} {w : World} (he : e ≠ .normal) (h : Ends G F w0 h0 (outQ P G k Q) e a w) : wpS P k (Ends G F w0 h0 Q) e a w := by
  obtain ⟨st, β, h1, hq, g, hd⟩ := h
  cases e with
  | normal => exact absurd rfl he
  | exit id =>
    refine wpS_exit ?_
    simp only [outQ] at hq
    split at hq
    · exact hq F w0 h0 β h1 a w g hd
    · exact ⟨st, β, h1, hq, g, hd⟩
  | _ => exact wpS_out ⟨by simp, by simp⟩ ⟨st, β, h1, hq, g, hd⟩
theorem exists_min {p : Nat → Prop} (h : ∃ n, p n) : ∃ n, p n ∧ ∀ m, p m → n ≤ m := by
  obtain ⟨n, hn⟩ := h
  induction n using Nat.strongRecOn with
  | _ n ih =>
    by_cases hm : ∃ m, m < n ∧ p m
    · obtain ⟨m, hlt, hp⟩ := hm; exact ih m hlt hp
    · exact ⟨n, hn, fun m hp => Nat.le_of_not_lt fun hlt => hm ⟨m, hlt, hp⟩⟩
/-- Once more round, in a state of the loop's own. -/
def Again {σ : Type} (S : σ → AS) (I : σ → Prop) (μ : σ → Nat) (x : σ) (st' : AS) : Prop := ∃ x', st'.le (S x') ∧ I x' ∧ μ x' < μ x
theorem Again.mk {σ : Type} {S : σ → AS} {I : σ → Prop} {μ : σ → Nat} {x : σ} {st' : AS} (x' : σ) (h : st'.le (S x')) (hI : I x') (hμ : μ x' < μ x) : Again S I μ x st' := ⟨x', h, hI, hμ⟩
def RoundQ {σ : Type} (P : Program) (G : IH) (k : List It) (Q : Exit → AS → Prop) (S : σ → AS) (I : σ → Prop) (μ : σ → Nat) (x : σ) (e : Exit) (st' : AS) : Prop :=
  match e with | .normal => Again S I μ x st' | e => outQ P G k Q e st'
theorem AWP.loop {σ : Type} {cd c : Code} {k : List It} {st : AS} (hc : cd = .loop c) (S : σ → AS) (I : σ → Prop) (μ : σ → Nat) (x0 : σ) (hst : st.le (S x0)) (hI : I x0)
    (round : ∀ x, I x → AWP P G [.code c] (S x) (RoundQ P G k Q S I μ x)) : AWP P G (.code cd :: k) st Q := by
  subst hc
  intro F w0 h0 β h a w g hd
  classical
  let inv : Act → World → Prop := fun a w => ∃ x β h, I x ∧ Gam G F w0 h0 (S x) β h a.tmps w ∧ a.defers = []
  let m : Act → World → Nat := fun a w => if hn : ∃ n, ∃ x β h, I x ∧ Gam G F w0 h0 (S x) β h a.tmps w ∧ a.defers = [] ∧ μ x = n then Classical.choose (exists_min hn) else 0
  refine wp_loop inv m ⟨x0, β, h, hI, g.weaken hst, hd⟩ fun a w hinv => ?_
  have hn : ∃ n, ∃ x β h, I x ∧ Gam G F w0 h0 (S x) β h a.tmps w ∧ a.defers = [] ∧ μ x = n := let ⟨x, β, h, hx, g, hd⟩ := hinv; ⟨_, x, β, h, hx, g, hd, rfl⟩
  obtain ⟨x, β, h, hx, g, hd, hμ⟩ := (Classical.choose_spec (exists_min hn)).1
  have hma : m a w = μ x := by simp only [m, dif_pos hn]; exact hμ.symm
  refine wp_then (round x hx F w0 h0 β h a w g hd) fun e a' w' he => ?_
  by_cases hen : e = .normal
  · subst hen
    obtain ⟨st', β', h', ⟨x', hle, hI', hlt⟩, g', hd'⟩ := he
    have g'' := g'.weaken hle
    refine ⟨⟨x', β', h', hI', g'', hd'⟩, ?_⟩
    have hn' : ∃ n, ∃ x β h, I x ∧ Gam G F w0 h0 (S x) β h a'.tmps w' ∧ a'.defers = [] ∧ μ x = n := ⟨_, x', β', h', hI', g'', hd', rfl⟩
    have : m a' w' ≤ μ x' := by simp only [m, dif_pos hn']; exact (Classical.choose_spec (exists_min hn')).2 _ ⟨x', β', h', hI', g'', hd', rfl⟩
    omega
  · have he' : Ends G F w0 h0 (outQ P G k Q) e a' w' := by
      obtain ⟨st', β', h', hq, g', hd'⟩ := he
      refine ⟨st', β', h', ?_, g', hd'⟩
      cases e <;> first | exact hq | exact absurd rfl hen
    have := outQ_ok hen he'
    cases e <;> first | exact this | exact absurd rfl hen
end
end Go.Ab
