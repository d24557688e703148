import Derived.Orders
import Derived.Below
import Derived.Tactics
import Derived.KernelRfl
import Derived.Laws.StructEq
import Derived.Laws.Cells
set_option autoImplicit false
namespace Go.Ab
open Go Go.RowKit

/-- Memory that nobody writes any more: single cells, and whole blocks. -/
structure IH where
  cell : Nat → Nat → Option Value
  obj : Nat → Option Obj

def IH.le (h k : IH) : Prop := (∀ b o v, h.cell b o = some v → k.cell b o = some v) ∧ ∀ b o, h.obj b = some o → k.obj b = some o
def IH.holds (h : IH) (w : World) : Prop :=
  (∀ b o v, h.cell b o = some v → w.cell? ⟨b, o, none⟩ = some v) ∧ ∀ b o, h.obj b = some o → w.heap[b]? = some o

theorem IH.le.refl (h : IH) : h.le h := ⟨fun _ _ _ e => e, fun _ _ e => e⟩
theorem IH.le.trans {a b c : IH} (h : a.le b) (k : b.le c) : a.le c := ⟨fun x o v e => k.1 x o v (h.1 x o v e), fun x o e => k.2 x o (h.2 x o e)⟩

/-- Values as data: what is known of a value, without an address. -/
inductive DV where
  | con (v : Value)
  | agg (l : List DV)
  | tup (l : List DV)
  | ptr (l : List DV)
  | slc (sz n : Nat) (f : Nat → DV)
  | clo (fn : Go.Fn) (first caps : List DV)
  | prd (R : IH → Value → Prop)

mutual
def DV.rel (h : IH) : DV → Value → Prop
  | .con v, x => x = v
  | .agg l, x => ∃ vs : List Value, x = .agg vs.toArray ∧ DV.rels h l vs
  | .tup l, x => ∃ vs : List Value, x = .tuple vs.toArray ∧ DV.rels h l vs
  | .ptr l, x => ∃ b off, x = .pointer (some ⟨b, off, none⟩) ∧ ∃ vs : List Value, DV.rels h l vs ∧ ∀ i, i < vs.length → h.cell b (off + i) = vs[i]?
  | .slc sz n f, x => ∃ p cap, x = .slice p n cap ∧ n ≤ cap ∧
      (n = 0 ∨ ∃ b off, p = some ⟨b, off, none⟩ ∧ ∀ i, i < n → ∃ v, DV.rel h (f i) v ∧ v.cells.size = sz ∧ ∀ j, j < sz → h.cell b (off + i * sz + j) = v.cells[j]?)
  | .clo fn a c, x => ∃ va vc : List Value, x = .func fn va.toArray vc.toArray ∧ DV.rels h a va ∧ DV.rels h c vc
  | .prd R, x => x.oneCell' = true ∧ ∃ k : IH, k.le h ∧ R k x
def DV.rels (h : IH) : List DV → List Value → Prop
  | [], vs => vs = []
  | d :: l, vs => ∃ v vs', vs = v :: vs' ∧ DV.rel h d v ∧ DV.rels h l vs'
end

mutual
theorem DV.rel.mono {h k : IH} (hk : h.le k) : ∀ (d : DV) (x : Value), d.rel h x → d.rel k x
  | .con _, _, e => e
  | .agg l, _, ⟨vs, e, r⟩ => ⟨vs, e, DV.rels.mono hk l vs r⟩
  | .tup l, _, ⟨vs, e, r⟩ => ⟨vs, e, DV.rels.mono hk l vs r⟩
  | .ptr l, _, ⟨b, off, e, vs, r, c⟩ => ⟨b, off, e, vs, DV.rels.mono hk l vs r, fun i hi => by
      have := c i hi
      rw [List.getElem?_eq_getElem hi] at this ⊢
      exact hk.1 _ _ _ this⟩
  | .slc _ _ f, _, ⟨p, cap, e, hc, r⟩ => ⟨p, cap, e, hc, r.imp id fun ⟨b, off, hp, r⟩ => ⟨b, off, hp, fun i hi =>
      let ⟨v, hv, hs, hj⟩ := r i hi
      ⟨v, DV.rel.mono hk (f i) v hv, hs, fun j hjs => by
        have := hj j hjs
        have hlt : j < v.cells.size := by omega
        rw [Array.getElem?_eq_getElem hlt] at this ⊢
        exact hk.1 _ _ _ this⟩⟩⟩
  | .clo _ a c, _, ⟨va, vc, e, ra, rc⟩ => ⟨va, vc, e, DV.rels.mono hk a va ra, DV.rels.mono hk c vc rc⟩
  | .prd _, _, ⟨o, j, hj, r⟩ => ⟨o, j, hj.trans hk, r⟩
theorem DV.rels.mono {h k : IH} (hk : h.le k) : ∀ (l : List DV) (vs : List Value), DV.rels h l vs → DV.rels k l vs
  | [], _, e => e
  | d :: l, _, ⟨v, vs', e, r, rs⟩ => ⟨v, vs', e, DV.rel.mono hk d v r, DV.rels.mono hk l vs' rs⟩
end

/-- Values as a function's own walk knows them: 'box s off': the address of cell 'off' of the block that it calls s; 'gate s want b x': x if b (the guard's temporary s holding 'want'), and nothing (undef) otherwise. -/
inductive AV where
  | any
  | d (x : DV)
  | box (s off : Nat)
  | agg (l : List AV)
  | tup (l : List AV)
  | clo (fn : Go.Fn) (first caps : List AV)
  | gate (slot : Nat) (want b : Bool) (x : AV)

mutual
def AV.rel (β : Nat → Nat) (h : IH) : AV → Value → Prop
  | .any, _ => True
  | .d x, v => x.rel h v
  | .box s off, v => v = .pointer (some ⟨β s, off, none⟩)
  | .agg l, v => ∃ vs : List Value, v = .agg vs.toArray ∧ AV.rels β h l vs
  | .tup l, v => ∃ vs : List Value, v = .tuple vs.toArray ∧ AV.rels β h l vs
  | .clo fn a c, v => ∃ va vc : List Value, v = .func fn va.toArray vc.toArray ∧ AV.rels β h a va ∧ AV.rels β h c vc
  | .gate _ _ b x, v => (b = true → AV.rel β h x v) ∧ (b = false → v = undef)
def AV.rels (β : Nat → Nat) (h : IH) : List AV → List Value → Prop
  | [], vs => vs = []
  | y :: l, vs => ∃ v vs', vs = v :: vs' ∧ AV.rel β h y v ∧ AV.rels β h l vs'
end

mutual
/-- The block that the walk calls s does not occur. -/
def AV.free (s : Nat) : AV → Bool
  | .any | .d _ => true
  | .box t _ => !(Nat.beq t s)
  | .agg l | .tup l => AV.frees s l
  | .clo _ a c => AV.frees s a && AV.frees s c
  | .gate _ _ _ x => AV.free s x
def AV.frees (s : Nat) : List AV → Bool
  | [] => true
  | x :: l => AV.free s x && AV.frees s l
end

def upd (β : Nat → Nat) (s b : Nat) : Nat → Nat := fun t => if t = s then b else β t

mutual
theorem AV.rel.mono {β : Nat → Nat} {h k : IH} (hk : h.le k) : ∀ (x : AV) (v : Value), x.rel β h v → x.rel β k v
  | .any, _, e => e
  | AV.d x, v, e => DV.rel.mono hk x v e
  | .box _ _, _, e => e
  | .agg l, _, ⟨vs, e, r⟩ => ⟨vs, e, AV.rels.mono hk l vs r⟩
  | .tup l, _, ⟨vs, e, r⟩ => ⟨vs, e, AV.rels.mono hk l vs r⟩
  | .clo _ a c, _, ⟨va, vc, e, ra, rc⟩ => ⟨va, vc, e, AV.rels.mono hk a va ra, AV.rels.mono hk c vc rc⟩
  | .gate _ _ _ x, v, ⟨e, e'⟩ => ⟨fun hb => AV.rel.mono hk x v (e hb), e'⟩
theorem AV.rels.mono {β : Nat → Nat} {h k : IH} (hk : h.le k) : ∀ (l : List AV) (vs : List Value), AV.rels β h l vs → AV.rels β k l vs
  | [], _, e => e
  | y :: l, _, ⟨v, vs', e, r, rs⟩ => ⟨v, vs', e, AV.rel.mono hk y v r, AV.rels.mono hk l vs' rs⟩
end

mutual
theorem AV.rel.upd {β : Nat → Nat} {h : IH} {s b : Nat} : ∀ (x : AV) (v : Value), x.free s = true → x.rel β h v → x.rel (upd β s b) h v
  | .any, _, _, e => e
  | AV.d _, _, _, e => e
  | .box t _, _, f, e => by
    simp only [AV.rel, Ab.upd] at e ⊢
    have : t ≠ s := by intro hts; subst hts; simp [AV.free] at f
    rw [if_neg this]; exact e
  | .agg l, _, f, ⟨vs, e, r⟩ => ⟨vs, e, AV.rels.upd l vs f r⟩
  | .tup l, _, f, ⟨vs, e, r⟩ => ⟨vs, e, AV.rels.upd l vs f r⟩
  | .clo _ a c, _, f, ⟨va, vc, e, ra, rc⟩ => by
    simp only [AV.free, Bool.and_eq_true] at f
    exact ⟨va, vc, e, AV.rels.upd a va f.1 ra, AV.rels.upd c vc f.2 rc⟩
  | .gate _ _ _ x, v, f, ⟨e, e'⟩ => ⟨fun hb => AV.rel.upd x v f (e hb), e'⟩
theorem AV.rels.upd {β : Nat → Nat} {h : IH} {s b : Nat} : ∀ (l : List AV) (vs : List Value), AV.frees s l = true → AV.rels β h l vs → AV.rels (upd β s b) h l vs
  | [], _, _, e => e
  | y :: l, _, f, ⟨v, vs', e, r, rs⟩ => by
    simp only [AV.frees, Bool.and_eq_true] at f
    exact ⟨v, vs', e, AV.rel.upd y v f.1 r, AV.rels.upd l vs' f.2 rs⟩
end

theorem AV.rels.length {β : Nat → Nat} {h : IH} : ∀ {l : List AV} {vs : List Value}, AV.rels β h l vs → vs.length = l.length
  | [], _, e => by simp only [AV.rels] at e; simp [e]
  | _ :: l, _, ⟨_, _, e, _, rs⟩ => by rw [e]; simp [AV.rels.length rs]
theorem AV.rels.get {β : Nat → Nat} {h : IH} : ∀ {l : List AV} {vs : List Value}, AV.rels β h l vs → ∀ {i : Nat} {x : AV}, l[i]? = some x → ∃ v, vs[i]? = some v ∧ x.rel β h v
  | [], _, _, i, x, hx => by simp at hx
  | _ :: l, _, ⟨v, vs', e, r, rs⟩, i, x, hx => by
    subst e
    cases i with
    | zero => simp at hx; subst hx; exact ⟨v, rfl, r⟩
    | succ i => simpa using AV.rels.get rs (i := i) (by simpa using hx)
theorem AV.rels.of_get {β : Nat → Nat} {h : IH} : ∀ {l : List AV} {vs : List Value}, vs.length = l.length → (∀ (i : Nat) (x : AV), l[i]? = some x → ∃ v, vs[i]? = some v ∧ x.rel β h v) → AV.rels β h l vs
  | [], vs, hl, _ => by simp only [AV.rels]; exact List.eq_nil_of_length_eq_zero (by simpa using hl)
  | x :: l, vs, hl, hg => by
    match vs, hl with
    | v :: vs', hl =>
      obtain ⟨v', hv, hr⟩ := hg 0 x rfl
      simp at hv; subst hv
      exact ⟨v, vs', rfl, hr, AV.rels.of_get (by simpa using hl) fun i y hy => by simpa using hg (i + 1) y (by simpa using hy)⟩
theorem DV.rels.length {h : IH} : ∀ {l : List DV} {vs : List Value}, DV.rels h l vs → vs.length = l.length
  | [], _, e => by simp only [DV.rels] at e; simp [e]
  | _ :: l, _, ⟨_, _, e, _, rs⟩ => by rw [e]; simp [DV.rels.length rs]
theorem AV.rels_d {β : Nat → Nat} {h : IH} : ∀ {l : List DV} {vs : List Value}, AV.rels β h (l.map .d) vs ↔ DV.rels h l vs
  | [], _ => by simp [AV.rels, DV.rels]
  | _ :: l, vs => by simp only [List.map_cons, AV.rels, DV.rels, AV.rel]; exact ⟨fun ⟨v, vs', e, r, rs⟩ => ⟨v, vs', e, r, AV.rels_d.1 rs⟩, fun ⟨v, vs', e, r, rs⟩ => ⟨v, vs', e, r, AV.rels_d.2 rs⟩⟩

/-- The state of a walk: what the temporaries hold, and the blocks of its own. -/
structure AS where
  regs : List AV
  boxes : List (Nat × List AV)

def look : List (Nat × List AV) → Nat → Option (List AV)
  | [], _ => none
  | (k, c) :: r, s => bif Nat.beq k s then some c else look r s
def AS.box (st : AS) (s : Nat) : Option (List AV) := look st.boxes s
def AS.reg (st : AS) (t : Nat) : AV := (st.regs[t]?).getD .any
def setCells (s i : Nat) (x : AV) : List (Nat × List AV) → List (Nat × List AV)
  | [] => []
  | (k, c) :: r => bif Nat.beq k s then (k, c.set i x) :: r else (k, c) :: setCells s i x r

/-- What one operation does. -/
structure Ev where
  dst : Option Nat
  val : AV
  rdc : List (Nat × Nat) := []
  wrc : List (Nat × Nat × AV) := []
  nw : List (Nat × List AV) := []

def setAll : List (Nat × Nat × AV) → List (Nat × List AV) → List (Nat × List AV)
  | [], b => b
  | (s, i, x) :: r, b => setAll r (setCells s i x b)
def putReg (l : List AV) (t : Option Nat) (x : AV) : List AV := match t with | some t => l.set t x | none => l
def Ev.app (e : Ev) (st : AS) : AS := ⟨putReg st.regs e.dst e.val, e.nw ++ setAll e.wrc st.boxes⟩

structure Kept (F : Nat → Prop) (w w' : World) : Prop where
  os : w'.os = w.os
  tape : w'.tape = w.tape
  output : w'.output = w.output
  size : w.heap.size ≤ w'.heap.size
  block : ∀ k, k < w.heap.size → ¬ F k → w'.heap[k]? = w.heap[k]?
theorem Kept.refl (F : Nat → Prop) (w : World) : Kept F w w := ⟨rfl, rfl, rfl, Nat.le_refl _, fun _ _ _ => rfl⟩

/-- What the state says of the machine's memory: G: what the whole program may rely on; F: the caller's blocks that may be written; w0, h0: the world and the unwritten memory when the walk began. -/
structure Gam (G : IH) (F : Nat → Prop) (w0 : World) (h0 : IH) (st : AS) (β : Nat → Nat) (h : IH) (tm : Array Value) (w : World) : Prop where
  glob : G.le h
  holds : h.holds w
  ext : h0.le h
  old : ∀ b, b < w0.heap.size → ¬ F b → (∀ o, h.cell b o = h0.cell b o) ∧ h.obj b = h0.obj b
  kept : Kept F w0 w
  size : tm.size = st.regs.length
  regs : ∀ (t : Nat) (x : AV), st.regs[t]? = some x → ∃ v, tm[t]? = some v ∧ x.rel β h v
  box : ∀ s l, st.box s = some l → (F (β s) ∨ w0.heap.size ≤ β s) ∧ (∀ o, h.cell (β s) o = none) ∧ h.obj (β s) = none ∧
    ∃ T, ∃ vs : List Value, w.heap[β s]? = some (.cells vs.toArray T (0, 0)) ∧ AV.rels β h l vs
  inj : ∀ s s' l l', st.box s = some l → st.box s' = some l' → β s = β s' → s = s'

def AS.free (st : AS) (s : Nat) : Bool := AV.frees s st.regs && st.boxes.all fun b => AV.frees s b.2
def Ev.free (e : Ev) (s : Nat) : Bool := AV.free s e.val && (e.wrc.all fun x => AV.free s x.2.2) && e.nw.all fun b => AV.frees s b.2

/-- The places that the walk's state consists of. -/
inductive Loc where
  | reg (t : Nat)
  | cell (s i : Nat)
  | size (s : Nat)
  deriving DecidableEq
def AS.at_ (st : AS) : Loc → Option AV × Option Nat
  | .reg t => (st.regs[t]?, none)
  | .cell s i => ((st.box s).bind (·[i]?), none)
  | .size s => (none, (st.box s).map List.length)
/-- A write to the first place may change the second. -/
def Loc.hits : Loc → Loc → Bool
  | .reg t, .reg u => Nat.beq t u
  | .cell s i, .cell r j => Nat.beq s r && Nat.beq i j
  | .size s, .size r => Nat.beq s r
  | .size s, .cell r _ => Nat.beq s r
  | _, _ => false
def Ev.writes (e : Ev) : List Loc := (match e.dst with | some t => [.reg t] | none => []) ++ (e.wrc.map (fun x => Loc.cell x.1 x.2.1) ++ e.nw.map (fun b => Loc.size b.1))
def Ev.wr (e : Ev) (p : Loc) : Bool := e.writes.any (·.hits p)

theorem Loc.hits_common {a b p : Loc} (h : a.hits p = true) (k : b.hits p = true) : (a.hits b || b.hits a) = true := by
  cases a <;> cases b <;> cases p <;> simp_all [Loc.hits, Nat.beq_eq]

theorem beq_self (n : Nat) : Nat.beq n n = true := by simp
theorem beq_ne {m n : Nat} (h : m ≠ n) : Nat.beq m n = false := by
  cases hh : Nat.beq m n with
  | true => exact absurd (Nat.eq_of_beq_eq_true hh) h
  | false => rfl

theorem look_append (a b : List (Nat × List AV)) (s : Nat) : look (a ++ b) s = (look a s).or (look b s) := by
  induction a with
  | nil => rfl
  | cons x a ih =>
    obtain ⟨k, c⟩ := x
    simp only [List.cons_append, look]
    cases Nat.beq k s <;> simp [ih]
def cellAt (b : List (Nat × List AV)) (s i : Nat) : Option AV := (look b s).bind (·[i]?)
def sizeAt (b : List (Nat × List AV)) (s : Nat) : Option Nat := (look b s).map List.length
theorem look_setCells (s i : Nat) (x : AV) (b : List (Nat × List AV)) (t : Nat) :
    look (setCells s i x b) t = if t = s then (look b t).map (·.set i x) else look b t := by
  induction b with
  | nil => simp [setCells, look]
  | cons y b ih =>
    obtain ⟨k, c⟩ := y
    simp only [setCells]
    by_cases hk : k = s
    · subst hk
      simp only [beq_self, cond_true, look]
      by_cases ht : t = k
      · subst ht; simp
      · rw [beq_ne (Ne.symm ht)]; simp [ht]
    · rw [beq_ne hk]
      simp only [cond_false, look, ih]
      by_cases ht : t = s
      · subst ht; simp [beq_ne hk]
      · simp [ht]
theorem sizeAt_setAll (w : List (Nat × Nat × AV)) : ∀ (b : List (Nat × List AV)) (s : Nat), sizeAt (setAll w b) s = sizeAt b s := by
  induction w with
  | nil => intro b s; rfl
  | cons x w ih =>
    intro b s
    obtain ⟨k, i, x⟩ := x
    simp only [setAll]
    rw [ih]
    simp only [sizeAt, look_setCells]
    by_cases hs : s = k
    · subst hs; cases look b s <;> simp
    · simp [hs]
theorem cellAt_setCells (s i : Nat) (x : AV) (b : List (Nat × List AV)) (t j : Nat) :
    cellAt (setCells s i x b) t j = if t = s ∧ j = i then (cellAt b t j).map (fun _ => x) else cellAt b t j := by
  simp only [cellAt, look_setCells]
  by_cases ht : t = s
  · subst ht
    cases hl : look b t with
    | none => simp
    | some c =>
      simp only [↓reduceIte, Option.map_some, Option.bind_some, true_and]
      by_cases hj : j = i
      · subst hj
        by_cases hlt : j < c.length
        · simp [hlt]
        · simp [hlt]
      · simp [hj, Ne.symm hj]
  · simp [ht]
theorem cellAt_setAll_congr (w : List (Nat × Nat × AV)) : ∀ (b b' : List (Nat × List AV)) (s i : Nat), cellAt b s i = cellAt b' s i → cellAt (setAll w b) s i = cellAt (setAll w b') s i := by
  induction w with
  | nil => intro b b' s i h; exact h
  | cons x w ih =>
    intro b b' s i h
    obtain ⟨k, m, x⟩ := x
    exact ih _ _ _ _ (by simp only [cellAt_setCells, h])
theorem cellAt_setAll_other (w : List (Nat × Nat × AV)) : ∀ (b : List (Nat × List AV)) (s i : Nat), ((w.map fun x => Loc.cell x.1 x.2.1).any (·.hits (.cell s i))) = false → cellAt (setAll w b) s i = cellAt b s i := by
  induction w with
  | nil => intro b s i h; rfl
  | cons x w ih =>
    intro b s i h
    obtain ⟨k, m, x⟩ := x
    simp only [List.map_cons, List.any_cons, Bool.or_eq_false_iff] at h
    simp only [setAll]
    rw [ih _ _ _ h.2, cellAt_setCells]
    have : ¬ (s = k ∧ i = m) := by rintro ⟨rfl, rfl⟩; simp [Loc.hits] at h
    rw [if_neg this]

theorem at_cell (st : AS) (s i : Nat) : st.at_ (.cell s i) = (cellAt st.boxes s i, none) := rfl
theorem at_size (st : AS) (s : Nat) : st.at_ (.size s) = (none, sizeAt st.boxes s) := rfl
theorem getElem?_putReg (l : List AV) (t : Option Nat) (x : AV) (u : Nat) : (putReg l t x)[u]? = if t = some u then (l[u]?).map (fun _ => x) else l[u]? := by
  cases t with
  | none => simp [putReg]
  | some t =>
    simp only [putReg, Option.some.injEq]
    by_cases h : t = u
    · subst h
      by_cases hl : t < l.length <;> simp [hl]
    · simp [h]

theorem at_app_congr (e : Ev) {st st' : AS} {p : Loc} (h : st.at_ p = st'.at_ p) : (e.app st).at_ p = (e.app st').at_ p := by
  cases p with
  | reg t =>
    simp only [AS.at_, Ev.app, getElem?_putReg] at h ⊢
    injection h with h _
    rw [h]
  | cell s i =>
    simp only [at_cell, Ev.app] at h ⊢
    injection h with h _
    have := cellAt_setAll_congr e.wrc _ _ _ _ h
    simp only [cellAt, look_append] at this ⊢
    cases look e.nw s <;> simp [this]
  | size s =>
    simp only [at_size, Ev.app] at h ⊢
    injection h with _ h
    have h1 := sizeAt_setAll e.wrc st.boxes s
    have h2 := sizeAt_setAll e.wrc st'.boxes s
    simp only [sizeAt, look_append] at h h1 h2 ⊢
    cases look e.nw s <;> simp_all
theorem look_nw {nw : List (Nat × List AV)} {s : Nat} (h : ((nw.map fun b => Loc.size b.1).any (·.hits (.size s))) = false) : look nw s = none := by
  induction nw with
  | nil => rfl
  | cons x nw ih =>
    obtain ⟨k, c⟩ := x
    simp only [List.map_cons, List.any_cons, Bool.or_eq_false_iff, Loc.hits] at h
    simp only [look, h.1, cond_false]
    exact ih h.2
theorem any_append_false {l m : List Loc} {p : Loc} (h : (l ++ m).any (·.hits p) = false) : l.any (·.hits p) = false ∧ m.any (·.hits p) = false := by
  simpa [List.any_append] using h
theorem at_app_other (e : Ev) (st : AS) {p : Loc} (h : e.wr p = false) : (e.app st).at_ p = st.at_ p := by
  have h1 := any_append_false h
  have h2 := any_append_false h1.2
  cases p with
  | reg t =>
    simp only [AS.at_, Ev.app, getElem?_putReg]
    have : e.dst ≠ some t := by
      intro hd
      have := h1.1
      simp [hd, Loc.hits] at this
    rw [if_neg this]
  | cell s i =>
    simp only [at_cell, Ev.app]
    have hn : look e.nw s = none := look_nw (by
      have := h2.2
      simp only [List.any_map, List.any_eq_false, Function.comp, Loc.hits] at this ⊢
      exact this)
    have := cellAt_setAll_other e.wrc st.boxes s i h2.1
    simp only [cellAt, look_append, hn, Option.none_or] at this ⊢
    rw [this]
  | size s =>
    simp only [at_size, Ev.app]
    have hn : look e.nw s = none := look_nw h2.2
    have := sizeAt_setAll e.wrc st.boxes s
    simp only [sizeAt, look_append, hn, Option.none_or] at this ⊢
    rw [this]
theorem length_app (e : Ev) (st : AS) : (e.app st).regs.length = st.regs.length := by
  simp only [Ev.app]; cases e.dst <;> simp [putReg]

theorem box_of_at {st st' : AS} (h : ∀ p, st.at_ p = st'.at_ p) (s : Nat) : st.box s = st'.box s := by
  have hs := h (.size s)
  simp only [AS.at_, Prod.mk.injEq, true_and] at hs
  have hc : ∀ i, (st.box s).bind (·[i]?) = (st'.box s).bind (·[i]?) := fun i => by
    have := h (.cell s i)
    simpa [AS.at_] using this
  cases h1 : st.box s with
  | none => cases h2 : st'.box s with
    | none => rfl
    | some c' => simp [h1, h2] at hs
  | some c => cases h2 : st'.box s with
    | none => simp [h1, h2] at hs
    | some c' =>
      simp only [h1, h2, Option.bind_some] at hc
      rw [List.ext_getElem? hc]
theorem Gam.congr {G : IH} {F : Nat → Prop} {w0 : World} {h0 : IH} {st st' : AS} {β : Nat → Nat} {h : IH} {tm : Array Value} {w : World}
    (g : Gam G F w0 h0 st β h tm w) (hl : st.regs.length = st'.regs.length) (ha : ∀ p, st.at_ p = st'.at_ p) : Gam G F w0 h0 st' β h tm w where
  glob := g.glob
  holds := g.holds
  ext := g.ext
  old := g.old
  kept := g.kept
  size := g.size.trans hl
  regs t x hx := g.regs t x (by
    have := ha (.reg t)
    simp only [AS.at_, Prod.mk.injEq, and_true] at this
    rw [this]; exact hx)
  box s l hb := g.box s l (by rw [box_of_at ha]; exact hb)
  inj s s' l l' hb hb' := g.inj s s' l l' (by rw [box_of_at ha]; exact hb) (by rw [box_of_at ha]; exact hb')
end Go.Ab
