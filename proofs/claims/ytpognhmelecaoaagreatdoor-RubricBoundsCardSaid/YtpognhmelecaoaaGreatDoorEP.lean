import Derived.Test.YtpognhmelecaoaaGreatDoorEN
/- Bounds, plain: what they are as numbers. -/
set_option autoImplicit false
namespace Go.Proofs
open Go Go.Ab Go.RowKit
set_option maxHeartbeats 1000000
def Is (p : Fr2) (v : Rat) : Prop := ok p.1 p.2 = true ∧ qv p.1 p.2 = v
theorem Is.uniq {p q : Fr2} {v : Rat} (h : Is p v) (k : Is q v) : p = q := by
  obtain ⟨a, b⟩ := ok_uniq h.1 k.1 (h.2.trans k.2.symm)
  exact Prod.ext a b
def mn (u w : Rat) : Rat := if w < u then w else u
def mx (u w : Rat) : Rat := if u < w then w else u
theorem cmp_is {p q : Fr2} {u w : Rat} (h1 : Is p u) (h2 : Is q w) : (cmpF p.1 p.2 q.1 q.2 > 0 ↔ w < u) ∧ (cmpF p.1 p.2 q.1 q.2 < 0 ↔ u < w) ∧ (cmpF p.1 p.2 q.1 q.2 ≤ 0 ↔ u ≤ w) := by
  rw [cmpF_eq h1.1 h2.1, h1.2, h2.2]
  unfold cmpR
  grind
theorem le_is {a b c d : Int} {u w : Rat} (h1 : Is (a, b) u) (h2 : Is (c, d) w) : Is (leN a b c d, leD a b c d) (mn u w) := by
  obtain ⟨k1, _, _⟩ := cmp_is h1 h2
  unfold leN leD cmpO mn
  by_cases h : cmpF a b c d > 0
  · rw [if_pos h, if_pos h, if_pos (k1.1 h)]; exact h2
  · rw [if_neg h, if_neg h, if_neg (fun hh => h (k1.2 hh))]; exact h1
theorem gr_is {a b c d : Int} {u w : Rat} (h1 : Is (a, b) u) (h2 : Is (c, d) w) : Is (grN a b c d, grD a b c d) (mx u w) := by
  obtain ⟨_, k1, _⟩ := cmp_is h1 h2
  unfold grN grD cmpO mx
  by_cases h : cmpF a b c d < 0
  · rw [if_pos h, if_pos h, if_pos (k1.1 h)]; exact h2
  · rw [if_neg h, if_neg h, if_neg (fun hh => h (k1.2 hh))]; exact h1
/-! Least and greatest of some values. -/
def fmn (V : Nat → Rat) : Nat → Rat
  | 0 => V 0
  | n + 1 => mn (fmn V n) (V n)
def fmx (V : Nat → Rat) : Nat → Rat
  | 0 => V 0
  | n + 1 => mx (fmx V n) (V n)
def emn (V : Nat → Rat) : Nat → Rat
  | 0 => V 0
  | n + 1 => mn (emn V n) (V (n + 1))
def emx (V : Nat → Rat) : Nat → Rat
  | 0 => V 0
  | n + 1 => mx (emx V n) (V (n + 1))
theorem mn_le (u w : Rat) : mn u w ≤ u ∧ mn u w ≤ w ∧ (mn u w = u ∨ mn u w = w) := by unfold mn; grind
theorem mx_le (u w : Rat) : u ≤ mx u w ∧ w ≤ mx u w ∧ (mx u w = u ∨ mx u w = w) := by unfold mx; grind
theorem emn_is (V : Nat → Rat) : ∀ n, (∀ i, i ≤ n → emn V n ≤ V i) ∧ ∃ i, i ≤ n ∧ emn V n = V i
  | 0 => ⟨fun i hi => by obtain rfl : i = 0 := by omega
                         exact Rat.le_refl, 0, Nat.le_refl _, rfl⟩
  | n + 1 => by
    obtain ⟨h1, j, hj, h2⟩ := emn_is V n
    obtain ⟨a, b, c⟩ := mn_le (emn V n) (V (n + 1))
    refine ⟨fun i hi => ?_, ?_⟩
    · show mn _ _ ≤ _
      rcases Nat.lt_or_ge i (n + 1) with h | h
      · exact Rat.le_trans a (h1 i (by omega))
      · obtain rfl : i = n + 1 := by omega
        exact b
    · rcases c with c | c
      · exact ⟨j, by omega, by show mn _ _ = _; rw [c, h2]⟩
      · exact ⟨n + 1, Nat.le_refl _, c⟩
theorem emx_is (V : Nat → Rat) : ∀ n, (∀ i, i ≤ n → V i ≤ emx V n) ∧ ∃ i, i ≤ n ∧ emx V n = V i
  | 0 => ⟨fun i hi => by obtain rfl : i = 0 := by omega
                         exact Rat.le_refl, 0, Nat.le_refl _, rfl⟩
  | n + 1 => by
    obtain ⟨h1, j, hj, h2⟩ := emx_is V n
    obtain ⟨a, b, c⟩ := mx_le (emx V n) (V (n + 1))
    refine ⟨fun i hi => ?_, ?_⟩
    · show _ ≤ mx _ _
      rcases Nat.lt_or_ge i (n + 1) with h | h
      · exact Rat.le_trans (h1 i (by omega)) a
      · obtain rfl : i = n + 1 := by omega
        exact b
    · rcases c with c | c
      · exact ⟨j, by omega, by show mx _ _ = _; rw [c, h2]⟩
      · exact ⟨n + 1, Nat.le_refl _, c⟩
theorem fmn_emn (V : Nat → Rat) : ∀ n, fmn V (n + 1) = emn V n
  | 0 => by show mn (V 0) (V 0) = V 0; unfold mn; grind
  | n + 1 => by show mn (fmn V (n + 1)) (V (n + 1)) = mn (emn V n) (V (n + 1)); rw [fmn_emn V n]
theorem fmx_emx (V : Nat → Rat) : ∀ n, fmx V (n + 1) = emx V n
  | 0 => by show mx (V 0) (V 0) = V 0; unfold mx; grind
  | n + 1 => by show mx (fmx V (n + 1)) (V (n + 1)) = mx (emx V n) (V (n + 1)); rw [fmx_emx V n]
theorem emn_perm {V V' : Nat → Rat} {n : Nat} (h1 : ∀ i, i ≤ n → ∃ j, j ≤ n ∧ V i = V' j) (h2 : ∀ i, i ≤ n → ∃ j, j ≤ n ∧ V' i = V j) : emn V n = emn V' n ∧ emx V n = emx V' n := by
  obtain ⟨a, i, hi, ha⟩ := emn_is V n
  obtain ⟨b, j, hj, hb⟩ := emn_is V' n
  obtain ⟨c, k, hk, hc⟩ := emx_is V n
  obtain ⟨d, l, hl, hd⟩ := emx_is V' n
  obtain ⟨i', hi', ei⟩ := h1 i hi
  obtain ⟨j', hj', ej⟩ := h2 j hj
  obtain ⟨k', hk', ek⟩ := h1 k hk
  obtain ⟨l', hl', el⟩ := h2 l hl
  have p1 := b i' hi'
  have p2 := a j' hj'
  have p3 := d k' hk'
  have p4 := c l' hl'
  constructor
  · grind
  · grind
/-! Bounds with values. -/
structure In (b : Bd) (u w : Rat) : Prop where
  lo : Is (b.a, b.b) u
  hi : Is (b.c, b.d) w
  le : u ≤ w
def cv (f : Rat → Rat → Rat) (u w u' w' : Rat) (n : Nat) : Rat := f (if n / 2 = 0 then u else w) (if n % 2 = 0 then u' else w')
theorem mn_is {op : Int → Int → Int → Int → FE} {x y : Bd} {V : Nat → Rat} (h : ∀ n, n < 4 → Is ((cnR op x y n).1, (cnR op x y n).2.1) (V n)) : ∀ n, n ≤ 4 →
    Is ((mnR op x y n).a, (mnR op x y n).b) (fmn V n) ∧ Is ((mnR op x y n).c, (mnR op x y n).d) (fmx V n)
  | 0, _ => ⟨h 0 (by omega), h 0 (by omega)⟩
  | n + 1, hn => by
    obtain ⟨h1, h2⟩ := mn_is h n (by omega)
    exact ⟨le_is h1 (h n (by omega)), gr_is h2 (h n (by omega))⟩
theorem cn_in {op : Int → Int → Int → Int → FE} {x y : Bd} {V : Nat → Rat} (h : ∀ n, n < 4 → Is ((cnR op x y n).1, (cnR op x y n).2.1) (V n)) (hb : cnBad op x y = false) : In (cnB op x y) (emn V 3) (emx V 3) := by
  obtain ⟨h1, h2⟩ := mn_is h 4 (Nat.le_refl _)
  have e : cnB op x y = mnR op x y 4 := by unfold cnB; rw [hb]; rfl
  rw [e]
  refine ⟨by rw [← fmn_emn]; exact h1, by rw [← fmx_emx]; exact h2, ?_⟩
  exact Rat.le_trans ((emn_is V 3).1 0 (by omega)) ((emx_is V 3).1 0 (by omega))
theorem bad_get {op : Int → Int → Int → Int → FE} {x y : Bd} (hb : cnBad op x y = false) {n : Nat} (hn : n < 4) : (cnR op x y n).2.2 = 0 := by
  refine Classical.byContradiction fun h => ?_
  rw [cn_bad hn h] at hb; cases hb
theorem cnR_is {op : Int → Int → Int → Int → FE} {f : Rat → Rat → Rat} {x y : Bd} {u w u' w' : Rat} (hx : In x u w) (hy : In y u' w')
    (hop : ∀ p q u w, Is p u → Is q w → (w = u' ∨ w = w') → (op p.1 p.2 q.1 q.2).2.2 = 0 → Is ((op p.1 p.2 q.1 q.2).1, (op p.1 p.2 q.1 q.2).2.1) (f u w)) (hb : cnBad op x y = false) :
    ∀ n, n < 4 → Is ((cnR op x y n).1, (cnR op x y n).2.1) (cv f u w u' w' n) := by
  intro n hn
  have hg := bad_get hb hn
  have hlo : Is ((loP x).getD (n / 2) (0, 0)) (if n / 2 = 0 then u else w) := by
    rcases n with _ | _ | _ | _ | n
    · exact hx.lo
    · exact hx.lo
    · exact hx.hi
    · exact hx.hi
    · omega
  have hly : Is ((loP y).getD (n % 2) (0, 0)) (if n % 2 = 0 then u' else w') := by
    rcases n with _ | _ | _ | _ | n
    · exact hy.lo
    · exact hy.hi
    · exact hy.lo
    · exact hy.hi
    · omega
  exact hop _ _ _ _ hlo hly (by split <;> simp) hg
theorem add_is {p q : Fr2} {u w : Rat} (h1 : Is p u) (h2 : Is q w) (h : (addF p.1 p.2 q.1 q.2).2.2 = 0) : Is ((addF p.1 p.2 q.1 q.2).1, (addF p.1 p.2 q.1 q.2).2.1) (u + w) := by
  have := (addF_is h1.1 h2.1).val h
  rw [h1.2, h2.2] at this; exact this
theorem sub_is {p q : Fr2} {u w : Rat} (h1 : Is p u) (h2 : Is q w) (h : (subF p.1 p.2 q.1 q.2).2.2 = 0) : Is ((subF p.1 p.2 q.1 q.2).1, (subF p.1 p.2 q.1 q.2).2.1) (u - w) := by
  have := (subF_is h1.1 h2.1).val h
  rw [h1.2, h2.2] at this; exact this
theorem mul_is {p q : Fr2} {u w : Rat} (h1 : Is p u) (h2 : Is q w) (h : (mulF p.1 p.2 q.1 q.2).2.2 = 0) : Is ((mulF p.1 p.2 q.1 q.2).1, (mulF p.1 p.2 q.1 q.2).2.1) (u * w) := by
  have := (mulF_is h1.1 h2.1).val h
  rw [h1.2, h2.2] at this; exact this
theorem num_ne {q : Fr2} {w : Rat} (h2 : Is q w) (hw : w ≠ 0) : q.1 ≠ 0 := by
  intro h
  apply hw
  rw [← h2.2, h]
  unfold qv
  rw [show ((0 : Int) : Rat) = 0 from rfl, Rat.div_def, Rat.zero_mul]
theorem div_is {p q : Fr2} {u w : Rat} (h1 : Is p u) (h2 : Is q w) (hw : w ≠ 0) (h : (divF p.1 p.2 q.1 q.2).2.2 = 0) : Is ((divF p.1 p.2 q.1 q.2).1, (divF p.1 p.2 q.1 q.2).2.1) (u / w) := by
  have := (divF_is h1.1 h2.1 (num_ne h2 hw)).val h
  rw [h1.2, h2.2] at this; exact this
theorem is_pos {p : Fr2} {u : Rat} (h : Is p u) : (p.1 > 0 ↔ 0 < u) ∧ (p.1 < 0 ↔ u < 0) ∧ (p.1 ≥ 0 ↔ 0 ≤ u) ∧ (p.1 ≤ 0 ↔ u ≤ 0) := by
  have hp := ok_pos h.1
  have e1 := qv_lt (a := 0) (b := 1) (c := p.1) (d := p.2) (by omega) hp
  have e2 := qv_lt (a := p.1) (b := p.2) (c := 0) (d := 1) hp (by omega)
  have z : qv 0 1 = 0 := by unfold qv; rw [show ((0 : Int) : Rat) = 0 from rfl, Rat.div_def, Rat.zero_mul]
  rw [z, h.2] at e1 e2
  simp only [Int.zero_mul, Int.mul_one] at e1 e2
  refine ⟨e1.symm, e2.symm, ?_, ?_⟩
  · constructor
    · intro hh; rw [← Rat.not_lt]; intro hc; have := e2.1 hc; omega
    · intro hh; rw [← Rat.not_lt] at hh; refine Classical.byContradiction fun hc => hh (e2.2 (by omega))
  · constructor
    · intro hh; rw [← Rat.not_lt]; intro hc; have := e1.1 hc; omega
    · intro hh; rw [← Rat.not_lt] at hh; refine Classical.byContradiction fun hc => hh (e1.2 (by omega))
theorem zero_is : Is (0, 1) 0 := ⟨by decide, by unfold qv; rw [show ((0 : Int) : Rat) = 0 from rfl, Rat.div_def, Rat.zero_mul]⟩
end Go.Proofs
/- The reference's bounds, plain: the same ones. -/
set_option autoImplicit false
namespace Go.Proofs
open Go Go.Ab Go.RowKit
set_option maxHeartbeats 1000000
/-! Extremes. -/
def g2 (l : List Fr2) (i : Nat) : Fr2 := l.getD i (0, 0)
def exS (l : List Fr2) : Nat → Bd
  | 0 => ⟨(g2 l 0).1, (g2 l 0).2, (g2 l 0).1, (g2 l 0).2⟩
  | k + 1 => ⟨leN (exS l k).a (exS l k).b (g2 l (k + 1)).1 (g2 l (k + 1)).2, leD (exS l k).a (exS l k).b (g2 l (k + 1)).1 (g2 l (k + 1)).2, grN (exS l k).c (exS l k).d (g2 l (k + 1)).1 (g2 l (k + 1)).2, grD (exS l k).c (exS l k).d (g2 l (k + 1)).1 (g2 l (k + 1)).2⟩
def xtR (l : List Fr2) (b : Bool) : BR := if b then (exS l (l.length - 1), true) else (bd0, false)
theorem exS_is {l : List Fr2} {V : Nat → Rat} (h : ∀ n, n < l.length → Is (g2 l n) (V n)) : ∀ n, n < l.length → Is ((exS l n).a, (exS l n).b) (emn V n) ∧ Is ((exS l n).c, (exS l n).d) (emx V n)
  | 0, hn => ⟨h 0 hn, h 0 hn⟩
  | n + 1, hn => by
    obtain ⟨h1, h2⟩ := exS_is h n (by omega)
    exact ⟨le_is h1 (h (n + 1) hn), gr_is h2 (h (n + 1) hn)⟩
theorem exS_in {l : List Fr2} {V : Nat → Rat} {n : Nat} (h : ∀ n, n < l.length → Is (g2 l n) (V n)) (hl : l.length = n + 1) : In (exS l (l.length - 1)) (emn V n) (emx V n) := by
  have e : l.length - 1 = n := by omega
  rw [e]
  obtain ⟨h1, h2⟩ := exS_is h n (by omega)
  exact ⟨h1, h2, Rat.le_trans ((emn_is V n).1 0 (by omega)) ((emx_is V n).1 0 (by omega))⟩
theorem In.uniq {b c : Bd} {u w : Rat} (h : In b u w) (k : In c u w) : b = c := by
  have e1 := h.lo.uniq k.lo
  have e2 := h.hi.uniq k.hi
  cases b; cases c
  simp only [Prod.mk.injEq] at e1 e2
  obtain ⟨rfl, rfl⟩ := e1
  obtain ⟨rfl, rfl⟩ := e2
  rfl
def neF (p : Fr2) : Fr2 := (if ok p.1 p.2 = true then -p.1 else p.1, p.2)
def rcR (op : Int → Int → Int → Int → FE) (x y : Bd) (n : Nat) : FE := op ((loP x).getD (n % 2) (0, 0)).1 ((loP x).getD (n % 2) (0, 0)).2 ((loP y).getD (n / 2) (0, 0)).1 ((loP y).getD (n / 2) (0, 0)).2
def rcBad (op : Int → Int → Int → Int → FE) (x y : Bd) : Bool := (List.range 4).any fun n => (rcR op x y n).2.2 != 0
def rcL (op : Int → Int → Int → Int → FE) (x y : Bd) (k : Nat) : List Fr2 := (List.range k).map fun n => ((rcR op x y n).1, (rcR op x y n).2.1)
def lows (R : List BR) : List Fr2 := R.map fun r => (r.1.a, r.1.b)
def highs (R : List BR) : List Fr2 := R.map fun r => (r.1.c, r.1.d)
def brC (k : Int) (R : List BR) : BR :=
  let p := (R.getD 0 (bd0, true)).1
  let q := (R.getD 1 (bd0, true)).1
  if k = 5 then (⟨(neF (p.c, p.d)).1, (neF (p.c, p.d)).2, (neF (p.a, p.b)).1, (neF (p.a, p.b)).2⟩, true)
  else if k = 6 then xtR [((addF p.a p.b q.a q.b).1, (addF p.a p.b q.a q.b).2.1), ((addF p.c p.d q.c q.d).1, (addF p.c p.d q.c q.d).2.1)] (betO (addF p.a p.b q.a q.b) (addF p.c p.d q.c q.d))
  else if k = 7 then xtR [((subF p.a p.b q.c q.d).1, (subF p.a p.b q.c q.d).2.1), ((subF p.c p.d q.a q.b).1, (subF p.c p.d q.a q.b).2.1)] (betO (subF p.a p.b q.c q.d) (subF p.c p.d q.a q.b))
  else if k = 8 then xtR (rcL mulF p q 4) (!rcBad mulF p q)
  else if k = 9 then xtR (rcL divF p q 4) ((decide (q.a > 0) || decide (q.c < 0)) && !rcBad divF p q)
  else if k = 10 then (⟨(exS (lows R) (R.length - 1)).a, (exS (lows R) (R.length - 1)).b, (exS (highs R) (R.length - 1)).a, (exS (highs R) (R.length - 1)).b⟩, true)
  else (⟨(exS (lows R) (R.length - 1)).c, (exS (lows R) (R.length - 1)).d, (exS (highs R) (R.length - 1)).c, (exS (highs R) (R.length - 1)).d⟩, true)
/-! Corners in the one order and in the other. -/
def sw4 (n : Nat) : Nat := if n = 1 then 2 else if n = 2 then 1 else n
theorem rc_cn (op : Int → Int → Int → Int → FE) (x y : Bd) {n : Nat} (h : n < 4) : rcR op x y n = cnR op x y (sw4 n) := by
  rcases n with _ | _ | _ | _ | n
  · rfl
  · rfl
  · rfl
  · rfl
  · omega
theorem sw_lt {n : Nat} (h : n < 4) : sw4 n < 4 ∧ sw4 (sw4 n) = n := by
  rcases n with _ | _ | _ | _ | n <;> first | (exact ⟨by decide, rfl⟩) | omega
theorem rc_bad (op : Int → Int → Int → Int → FE) (x y : Bd) : rcBad op x y = cnBad op x y := by
  rw [Bool.eq_iff_iff]
  unfold rcBad cnBad
  rw [List.any_eq_true, List.any_eq_true]
  constructor
  · rintro ⟨n, hn, h⟩
    have hn := List.mem_range.1 hn
    exact ⟨sw4 n, List.mem_range.2 (sw_lt hn).1, by rw [← rc_cn op x y hn]; exact h⟩
  · rintro ⟨n, hn, h⟩
    have hn := List.mem_range.1 hn
    refine ⟨sw4 n, List.mem_range.2 (sw_lt hn).1, ?_⟩
    rw [rc_cn op x y (sw_lt hn).1, (sw_lt hn).2]; exact h
theorem rcL_get (op : Int → Int → Int → Int → FE) (x y : Bd) {k n : Nat} (h : n < k) : g2 (rcL op x y k) n = ((rcR op x y n).1, (rcR op x y n).2.1) := by
  unfold g2 rcL
  rw [List.getD, List.getElem?_map, List.getElem?_range h]; rfl
theorem rcL_len (op : Int → Int → Int → Int → FE) (x y : Bd) (k : Nat) : (rcL op x y k).length = k := by unfold rcL; simp
theorem rc_in {op : Int → Int → Int → Int → FE} {x y : Bd} {V : Nat → Rat} (h : ∀ n, n < 4 → Is ((cnR op x y n).1, (cnR op x y n).2.1) (V n)) (hb : cnBad op x y = false) : exS (rcL op x y 4) 3 = cnB op x y := by
  have h1 := cn_in h hb
  have h2 := exS_in (l := rcL op x y 4) (V := fun n => V (sw4 n)) (n := 3) (fun n hn => by
    rw [rcL_len] at hn
    rw [rcL_get op x y hn, rc_cn op x y hn]
    exact h _ (sw_lt hn).1) (rcL_len op x y 4)
  rw [rcL_len] at h2
  have e := emn_perm (V := fun n => V (sw4 n)) (V' := V) (n := 3) (fun i hi => ⟨sw4 i, by have := (sw_lt (n := i) (by omega)).1; omega, rfl⟩) (fun i hi => ⟨sw4 i, by have := (sw_lt (n := i) (by omega)).1; omega, by rw [(sw_lt (n := i) (by omega)).2]⟩)
  rw [e.1, e.2] at h2
  exact h2.uniq h1
end Go.Proofs
/- The reference's bounds, plain: definitions. -/
set_option autoImplicit false
namespace Go.Proofs
open Go Go.Ab Go.RowKit
def neN (a b : Int) : Int := if ok a b then -a else a
mutual
def brE (L : List Fc) : Ex → BR
  | .mk k s n d _ kids => if k = 1 then (⟨n, d, n, d⟩, true) else if k = 2 then (⟨(L.getD (fndI L s).toNat fc0).ln, (L.getD (fndI L s).toNat fc0).ld, (L.getD (fndI L s).toNat fc0).hn, (L.getD (fndI L s).toNat fc0).hd⟩, true)
    else if (brL L kids).any (fun r => !r.2) then (bd0, false) else brC k (brL L kids)
def brL (L : List Fc) : List Ex → List BR
  | [] => []
  | x :: r => brE L x :: brL L r
end
theorem brL_map (L : List Fc) : ∀ r : List Ex, brL L r = r.map (brE L)
  | [] => rfl
  | x :: r => by simp only [brL, List.map_cons, brL_map L r]
theorem brL_get {L : List Fc} {r : List Ex} {i : Nat} (hi : i < r.length) : (brL L r).getD i (bd0, true) = brE L (r.getD i ex0) := by
  rw [brL_map, List.getD, List.getElem?_map, List.getElem?_eq_getElem hi, List.getD, List.getElem?_eq_getElem hi]; rfl
theorem brE_eq (L : List Fc) (x : Ex) : brE L x = if x.k = 1 then (⟨x.n, x.d, x.n, x.d⟩, true) else if x.k = 2 then (⟨(L.getD (fndI L x.s).toNat fc0).ln, (L.getD (fndI L x.s).toNat fc0).ld, (L.getD (fndI L x.s).toNat fc0).hn, (L.getD (fndI L x.s).toNat fc0).hd⟩, true)
    else if (brL L x.kids).any (fun r => !r.2) then (bd0, false) else brC x.k (brL L x.kids) := by cases x; simp only [brE, Ex.k, Ex.s, Ex.n, Ex.d, Ex.kids]; rfl
theorem lows_get (R : List BR) (i : Nat) : (lows R).getD i (0, 0) = ((R.getD i (bd0, true)).1.a, (R.getD i (bd0, true)).1.b) := by
  unfold lows
  rw [List.getD, List.getElem?_map, List.getD]
  cases R[i]? <;> rfl
theorem highs_get (R : List BR) (i : Nat) : (highs R).getD i (0, 0) = ((R.getD i (bd0, true)).1.c, (R.getD i (bd0, true)).1.d) := by
  unfold highs
  rw [List.getD, List.getElem?_map, List.getD]
  cases R[i]? <;> rfl
section
variable {k : Int} {R : List BR}
theorem brC_5 (h : k = 5) : brC k R = (⟨neN (R.getD 0 (bd0, true)).1.c (R.getD 0 (bd0, true)).1.d, (R.getD 0 (bd0, true)).1.d, neN (R.getD 0 (bd0, true)).1.a (R.getD 0 (bd0, true)).1.b, (R.getD 0 (bd0, true)).1.b⟩, true) := by subst h; rfl
theorem brC_6 (h : k = 6) : brC k R = xtR [((addF (R.getD 0 (bd0, true)).1.a (R.getD 0 (bd0, true)).1.b (R.getD 1 (bd0, true)).1.a (R.getD 1 (bd0, true)).1.b).1, (addF (R.getD 0 (bd0, true)).1.a (R.getD 0 (bd0, true)).1.b (R.getD 1 (bd0, true)).1.a (R.getD 1 (bd0, true)).1.b).2.1), ((addF (R.getD 0 (bd0, true)).1.c (R.getD 0 (bd0, true)).1.d (R.getD 1 (bd0, true)).1.c (R.getD 1 (bd0, true)).1.d).1, (addF (R.getD 0 (bd0, true)).1.c (R.getD 0 (bd0, true)).1.d (R.getD 1 (bd0, true)).1.c (R.getD 1 (bd0, true)).1.d).2.1)] (betO (addF (R.getD 0 (bd0, true)).1.a (R.getD 0 (bd0, true)).1.b (R.getD 1 (bd0, true)).1.a (R.getD 1 (bd0, true)).1.b) (addF (R.getD 0 (bd0, true)).1.c (R.getD 0 (bd0, true)).1.d (R.getD 1 (bd0, true)).1.c (R.getD 1 (bd0, true)).1.d)) := by subst h; rfl
theorem brC_7 (h : k = 7) : brC k R = xtR [((subF (R.getD 0 (bd0, true)).1.a (R.getD 0 (bd0, true)).1.b (R.getD 1 (bd0, true)).1.c (R.getD 1 (bd0, true)).1.d).1, (subF (R.getD 0 (bd0, true)).1.a (R.getD 0 (bd0, true)).1.b (R.getD 1 (bd0, true)).1.c (R.getD 1 (bd0, true)).1.d).2.1), ((subF (R.getD 0 (bd0, true)).1.c (R.getD 0 (bd0, true)).1.d (R.getD 1 (bd0, true)).1.a (R.getD 1 (bd0, true)).1.b).1, (subF (R.getD 0 (bd0, true)).1.c (R.getD 0 (bd0, true)).1.d (R.getD 1 (bd0, true)).1.a (R.getD 1 (bd0, true)).1.b).2.1)] (betO (subF (R.getD 0 (bd0, true)).1.a (R.getD 0 (bd0, true)).1.b (R.getD 1 (bd0, true)).1.c (R.getD 1 (bd0, true)).1.d) (subF (R.getD 0 (bd0, true)).1.c (R.getD 0 (bd0, true)).1.d (R.getD 1 (bd0, true)).1.a (R.getD 1 (bd0, true)).1.b)) := by subst h; rfl
theorem brC_8 (h : k = 8) : brC k R = xtR (rcL mulF (R.getD 0 (bd0, true)).1 (R.getD 1 (bd0, true)).1 4) (!rcBad mulF (R.getD 0 (bd0, true)).1 (R.getD 1 (bd0, true)).1) := by subst h; rfl
theorem brC_9 (h : k = 9) : brC k R = xtR (rcL divF (R.getD 0 (bd0, true)).1 (R.getD 1 (bd0, true)).1 4) ((decide ((R.getD 1 (bd0, true)).1.a > 0) || decide ((R.getD 1 (bd0, true)).1.c < 0)) && !rcBad divF (R.getD 0 (bd0, true)).1 (R.getD 1 (bd0, true)).1) := by subst h; rfl
theorem brC_10 (h : k = 10) : brC k R = (⟨(exS (lows R) (R.length - 1)).a, (exS (lows R) (R.length - 1)).b, (exS (highs R) (R.length - 1)).a, (exS (highs R) (R.length - 1)).b⟩, true) := by subst h; rfl
theorem brC_11 (h : k = 11) : brC k R = (⟨(exS (lows R) (R.length - 1)).c, (exS (lows R) (R.length - 1)).d, (exS (highs R) (R.length - 1)).c, (exS (highs R) (R.length - 1)).d⟩, true) := by subst h; rfl
end
end Go.Proofs
/- The bounds of the program and of the reference are the same. -/
set_option autoImplicit false
namespace Go.Proofs
open Go Go.Ab Go.RowKit
set_option maxHeartbeats 1000000
theorem emn_eq {V : Nat → Rat} {n : Nat} {v : Rat} (h1 : ∀ i, i ≤ n → v ≤ V i) (h2 : ∃ j, j ≤ n ∧ V j = v) : emn V n = v := by
  obtain ⟨a, i, hi, ha⟩ := emn_is V n
  obtain ⟨j, hj, hb⟩ := h2
  have p1 := a j hj
  have p2 := h1 i hi
  grind
theorem emx_eq {V : Nat → Rat} {n : Nat} {v : Rat} (h1 : ∀ i, i ≤ n → V i ≤ v) (h2 : ∃ j, j ≤ n ∧ V j = v) : emx V n = v := by
  obtain ⟨a, i, hi, ha⟩ := emx_is V n
  obtain ⟨j, hj, hb⟩ := h2
  have p1 := a j hj
  have p2 := h1 i hi
  grind
theorem neg_is {p : Fr2} {u : Rat} (h : Is p u) : Is (-p.1, p.2) (0 - u) := by
  obtain ⟨h1, h2⟩ := h
  have hs := ok_spec h1
  refine ⟨?_, ?_⟩
  · unfold ok
    rw [decide_eq_true]
    refine ⟨hs.1, hs.2.1, by show _ ≤ -p.1; omega, by show -p.1 ≤ _; omega, ?_⟩
    show Int.gcd (-p.1) p.2 = 1
    rw [Int.neg_gcd]; exact hs.2.2.2.2
  · rw [← h2]
    unfold qv
    rw [Rat.intCast_neg, Rat.div_def, Rat.div_def]
    grind
theorem neN_is {p : Fr2} {u : Rat} (h : Is p u) : Is ((if ok p.1 p.2 = true then -p.1 else p.1), p.2) (0 - u) := by
  rw [if_pos h.1]; exact neg_is h
theorem sub0 {p : Fr2} {u : Rat} (h : Is p u) : subF 0 1 p.1 p.2 = (-p.1, p.2, 0) := by
  have hs := subF_is (a := 0) (b := 1) zero_is.1 h.1
  have hn := neg_is h
  refine hs.unq _ _ hn.1 ?_
  rw [hn.2, h.2]
  have := zero_is.2
  rw [show qv 0 1 = 0 from this]
def Same (r b : BR) : Prop := r.2 = b.2 ∧ (b.2 = true → (∃ u w, In b.1 u w) ∧ r = b) ∧ (b.2 = false → r = (bd0, false))
theorem same_in {r b : BR} {u w : Rat} (hb : b.2 = true) (hr : r.2 = true) (h1 : In b.1 u w) (h2 : In r.1 u w) : Same r b := by
  have e := h2.uniq h1
  have e2 : r = b := Prod.ext e (hr.trans hb.symm)
  refine ⟨by rw [e2], fun _ => ⟨⟨u, w, h1⟩, e2⟩, fun h => ?_⟩
  rw [hb] at h; cases h
theorem same_bad {r b : BR} (hb : b.2 = false) (hr : r = (bd0, false)) : Same r b := by
  subst hr
  refine ⟨hb.symm, fun h => ?_, fun _ => rfl⟩
  rw [hb] at h; cases h
theorem two_em (a b : Rat) (h : a ≤ b) : emn (fun n => if n = 0 then a else b) 1 = a ∧ emx (fun n => if n = 0 then a else b) 1 = b := by
  refine ⟨emn_eq (fun i hi => ?_) ⟨0, by omega, rfl⟩, emx_eq (fun i hi => ?_) ⟨1, by omega, rfl⟩⟩
  · show a ≤ if i = 0 then a else b
    split
    · exact Rat.le_refl
    · exact h
  · show (if i = 0 then a else b) ≤ b
    split
    · exact h
    · exact Rat.le_refl
theorem xt2_in {p q : Fr2} {a b : Rat} (hp : Is p a) (hq : Is q b) (h : a ≤ b) : In (exS [p, q] 1) a b := by
  have h1 := exS_in (l := [p, q]) (V := fun n => if n = 0 then a else b) (n := 1) (fun n hn => by
    have hn : n < 2 := hn
    rcases n with _ | _ | n
    · exact hp
    · exact hq
    · omega) rfl
  obtain ⟨e1, e2⟩ := two_em a b h
  rw [e1, e2] at h1
  exact h1
section
variable {R : List BR}
theorem same5 {u w : Rat} (hp : In (R.getD 0 (bd0, true)).1 u w) : Same (brC 5 R) (bnC 5 R) := by
  rw [bnC_5 rfl]
  have e : brC 5 R = (⟨(neF ((R.getD 0 (bd0, true)).1.c, (R.getD 0 (bd0, true)).1.d)).1, (neF ((R.getD 0 (bd0, true)).1.c, (R.getD 0 (bd0, true)).1.d)).2, (neF ((R.getD 0 (bd0, true)).1.a, (R.getD 0 (bd0, true)).1.b)).1, (neF ((R.getD 0 (bd0, true)).1.a, (R.getD 0 (bd0, true)).1.b)).2⟩, true) := rfl
  rw [e]
  generalize (R.getD 0 (bd0, true)).1 = p at *
  have hV : ∀ n, n < 4 → Is ((cnR subF ⟨0, 1, 0, 1⟩ p n).1, (cnR subF ⟨0, 1, 0, 1⟩ p n).2.1) (0 - (if n % 2 = 0 then u else w)) ∧ (cnR subF ⟨0, 1, 0, 1⟩ p n).2.2 = 0 := by
    intro n hn
    have h1 := sub0 hp.lo
    have h2 := sub0 hp.hi
    have n1 := neg_is hp.lo
    have n2 := neg_is hp.hi
    rcases n with _ | _ | _ | _ | n
    · have e : cnR subF ⟨0, 1, 0, 1⟩ p 0 = subF 0 1 p.a p.b := rfl
      rw [e, h1]; exact ⟨n1, rfl⟩
    · have e : cnR subF ⟨0, 1, 0, 1⟩ p 1 = subF 0 1 p.c p.d := rfl
      rw [e, h2]; exact ⟨n2, rfl⟩
    · have e : cnR subF ⟨0, 1, 0, 1⟩ p 2 = subF 0 1 p.a p.b := rfl
      rw [e, h1]; exact ⟨n1, rfl⟩
    · have e : cnR subF ⟨0, 1, 0, 1⟩ p 3 = subF 0 1 p.c p.d := rfl
      rw [e, h2]; exact ⟨n2, rfl⟩
    · omega
  have hb := cn_good (op := subF) (x := ⟨0, 1, 0, 1⟩) (y := p) fun n hn => (hV n hn).2
  have h1 := cn_in (V := fun n => 0 - (if n % 2 = 0 then u else w)) (fun n hn => (hV n hn).1) hb
  have hle := hp.le
  have e1 : emn (fun n => 0 - (if n % 2 = 0 then u else w)) 3 = 0 - w := emn_eq (fun i hi => by
    show 0 - w ≤ 0 - (if i % 2 = 0 then u else w)
    split <;> grind) ⟨1, by omega, rfl⟩
  have e2 : emx (fun n => 0 - (if n % 2 = 0 then u else w)) 3 = 0 - u := emx_eq (fun i hi => by
    show 0 - (if i % 2 = 0 then u else w) ≤ 0 - u
    split <;> grind) ⟨0, by omega, rfl⟩
  rw [e1, e2] at h1
  rw [hb]
  refine same_in rfl rfl h1 ⟨neN_is hp.hi, neN_is hp.lo, by grind⟩
theorem same67 {k : Int} {f g : FE} {a c : Rat} (e1 : bnC k R = (betB f g, betO f g)) (e2 : brC k R = xtR [(f.1, f.2.1), (g.1, g.2.1)] (betO f g)) (hf : f.2.2 = 0 → Is (f.1, f.2.1) a) (hg : g.2.2 = 0 → Is (g.1, g.2.1) c) (h : a ≤ c) : Same (brC k R) (bnC k R) := by
  rw [e1, e2]
  cases hb : betO f g with
  | false => exact same_bad rfl rfl
  | true =>
    have h2 := hb
    unfold betO at h2
    simp only [Bool.and_eq_true, beq_iff_eq] at h2
    have i1 := hf h2.1
    have i2 := hg h2.2
    exact same_in (u := a) (w := c) rfl rfl ⟨i1, i2, h⟩ (xt2_in i1 i2 h)
theorem same89 {op : Int → Int → Int → Int → FE} {f : Rat → Rat → Rat} {x y : Bd} {u w u' w' : Rat} (hx : In x u w) (hy : In y u' w')
    (hop : ∀ p q u w, Is p u → Is q w → (w = u' ∨ w = w') → (op p.1 p.2 q.1 q.2).2.2 = 0 → Is ((op p.1 p.2 q.1 q.2).1, (op p.1 p.2 q.1 q.2).2.1) (f u w)) :
    Same (xtR (rcL op x y 4) (!rcBad op x y)) (cnB op x y, !cnBad op x y) := by
  rw [rc_bad]
  cases hb : cnBad op x y with
  | true => exact same_bad rfl rfl
  | false =>
    have hV := cnR_is hx hy hop hb
    have h1 := cn_in hV hb
    have h2 := rc_in hV hb
    have e : xtR (rcL op x y 4) (!false) = (exS (rcL op x y 4) 3, true) := by
      show (exS (rcL op x y 4) ((rcL op x y 4).length - 1), true) = _
      rw [rcL_len]
    rw [e, h2]
    exact same_in rfl rfl h1 h1
theorem fold_is {mxB : Bool} {Vl Vh : Nat → Rat} (h : ∀ n, n < R.length → Is ((R.getD n (bd0, true)).1.a, (R.getD n (bd0, true)).1.b) (Vl n) ∧ Is ((R.getD n (bd0, true)).1.c, (R.getD n (bd0, true)).1.d) (Vh n)) (h0 : 0 < R.length) : ∀ n, n ≤ R.length →
    Is ((foldB mxB R n).a, (foldB mxB R n).b) (if mxB then fmx Vl n else fmn Vl n) ∧ Is ((foldB mxB R n).c, (foldB mxB R n).d) (if mxB then fmx Vh n else fmn Vh n)
  | 0, _ => by
    obtain ⟨a, b⟩ := h 0 h0
    cases mxB
    · exact ⟨a, b⟩
    · exact ⟨a, b⟩
  | n + 1, hn => by
    obtain ⟨a, b⟩ := h n (by omega)
    have ih := fold_is (mxB := mxB) h h0 n (by omega)
    cases mxB with
    | false => exact ⟨le_is ih.1 a, le_is ih.2 b⟩
    | true => exact ⟨gr_is ih.1 a, gr_is ih.2 b⟩
end
end Go.Proofs
/- The bounds of an expression: the program's and the reference's. -/
set_option autoImplicit false
namespace Go.Proofs
open Go Go.Ab Go.RowKit
set_option maxHeartbeats 1000000
section
variable {R : List BR}
theorem same9 {u w u' w' : Rat} (hx : In (R.getD 0 (bd0, true)).1 u w) (hy : In (R.getD 1 (bd0, true)).1 u' w') : Same (brC 9 R) (bnC 9 R) := by
  rw [bnC_9 rfl, brC_9 rfl]
  generalize (R.getD 0 (bd0, true)).1 = x at *
  generalize (R.getD 1 (bd0, true)).1 = y at *
  obtain ⟨a1, _, _, _⟩ := is_pos hy.lo
  obtain ⟨_, b2, _, _⟩ := is_pos hy.hi
  by_cases hs : sgnI y.a y.c = 0
  · rw [if_pos hs]
    have e : (decide (y.a > 0) || decide (y.c < 0)) = false := by
      unfold sgnI at hs
      split at hs
      · omega
      · split at hs
        · omega
        · rename_i h1 h2
          rw [decide_eq_false h1, decide_eq_false h2]; rfl
    rw [e]
    exact same_bad rfl rfl
  · rw [if_neg hs]
    have e : (decide (y.a > 0) || decide (y.c < 0)) = true := by
      unfold sgnI at hs
      split at hs
      · rename_i h1; rw [decide_eq_true h1]; rfl
      · split at hs
        · rename_i h2; rw [decide_eq_true h2, Bool.or_true]
        · omega
    have hne : ∀ v, v = u' ∨ v = w' → v ≠ 0 := by
      have hle := hy.le
      simp only [Bool.or_eq_true, decide_eq_true_eq] at e
      rcases e with e | e
      · have := a1.1 e
        rintro v (rfl | rfl) <;> grind
      · have := b2.1 e
        rintro v (rfl | rfl) <;> grind
    rw [e, Bool.true_and]
    exact same89 hx hy fun p q u w h1 h2 h3 h4 => div_is h1 h2 (hne _ h3) h4
theorem same_z {k : Int} (hk : k = 10 ∨ k = 11) (h0 : 0 < R.length) (h : ∀ n, n < R.length → ∃ u w, In (R.getD n (bd0, true)).1 u w) : Same (brC k R) (bnC k R) := by
  classical
  have hch : ∀ n, ∃ p : Rat × Rat, n < R.length → In (R.getD n (bd0, true)).1 p.1 p.2 := fun n => by
    by_cases hn : n < R.length
    · obtain ⟨u, w, hh⟩ := h n hn
      exact ⟨(u, w), fun _ => hh⟩
    · exact ⟨(0, 0), fun hh => absurd hh hn⟩
  obtain ⟨P, hP⟩ := Classical.axiomOfChoice hch
  obtain ⟨N, hN⟩ : ∃ N, R.length = N + 1 := ⟨R.length - 1, by omega⟩
  have hI : ∀ n, n < R.length → Is ((R.getD n (bd0, true)).1.a, (R.getD n (bd0, true)).1.b) (P n).1 ∧ Is ((R.getD n (bd0, true)).1.c, (R.getD n (bd0, true)).1.d) (P n).2 := fun n hn => ⟨(hP n hn).lo, (hP n hn).hi⟩
  have ll : (lows R).length = N + 1 := by unfold lows; rw [List.length_map, hN]
  have lh : (highs R).length = N + 1 := by unfold highs; rw [List.length_map, hN]
  have x1 := exS_in (l := lows R) (V := fun n => (P n).1) (n := N) (fun n hn => by
    unfold g2
    rw [lows_get]
    exact (hI n (by omega)).1) ll
  have x2 := exS_in (l := highs R) (V := fun n => (P n).2) (n := N) (fun n hn => by
    unfold g2
    rw [highs_get]
    exact (hI n (by omega)).2) lh
  have eN : R.length - 1 = N := by omega
  rw [ll, Nat.add_sub_cancel] at x1
  rw [lh, Nat.add_sub_cancel] at x2
  have hle : ∀ n, n ≤ N → (P n).1 ≤ (P n).2 := fun n hn => (hP n (by omega)).le
  rw [bnC_z hk]
  rcases hk with rfl | rfl
  · rw [brC_10 rfl, eN]
    have hf := fold_is (mxB := false) (Vl := fun n => (P n).1) (Vh := fun n => (P n).2) hI h0 (N + 1) (by omega)
    rw [hN]
    simp only [Bool.false_eq_true, if_false, fmn_emn] at hf
    have hl : emn (fun n => (P n).1) N ≤ emn (fun n => (P n).2) N := by
      obtain ⟨_, j, hj, ej⟩ := emn_is (fun n => (P n).2) N
      rw [ej]
      exact Rat.le_trans ((emn_is (fun n => (P n).1) N).1 j hj) (hle j hj)
    exact same_in rfl rfl ⟨hf.1, hf.2, hl⟩ ⟨x1.lo, x2.lo, hl⟩
  · rw [brC_11 rfl, eN]
    have hf := fold_is (mxB := true) (Vl := fun n => (P n).1) (Vh := fun n => (P n).2) hI h0 (N + 1) (by omega)
    rw [hN]
    simp only [if_true, fmx_emx] at hf
    have hl : emx (fun n => (P n).1) N ≤ emx (fun n => (P n).2) N := by
      obtain ⟨_, j, hj, ej⟩ := emx_is (fun n => (P n).1) N
      rw [ej]
      exact Rat.le_trans (hle j hj) ((emx_is (fun n => (P n).2) N).1 j hj)
    exact same_in rfl rfl ⟨hf.1, hf.2, hl⟩ ⟨x1.hi, x2.hi, hl⟩
theorem same_all {k : Int} (hk : 5 ≤ k ∧ k ≤ 11) (h1 : k = 5 → 1 ≤ R.length) (h2 : k = 6 ∨ k = 7 ∨ k = 8 ∨ k = 9 → 2 ≤ R.length) (h3 : k = 10 ∨ k = 11 → 1 ≤ R.length)
    (h : ∀ n, n < R.length → ∃ u w, In (R.getD n (bd0, true)).1 u w) : Same (brC k R) (bnC k R) := by
  have hc : k = 5 ∨ k = 6 ∨ k = 7 ∨ k = 8 ∨ k = 9 ∨ (k = 10 ∨ k = 11) := by omega
  rcases hc with rfl | rfl | rfl | rfl | rfl | hk
  · obtain ⟨u, w, hp⟩ := h 0 (by have := h1 rfl; omega)
    exact same5 hp
  · have hl := h2 (.inl rfl)
    obtain ⟨u, w, hp⟩ := h 0 (by omega)
    obtain ⟨u', w', hq⟩ := h 1 (by omega)
    exact same67 (bnC_6 rfl) (brC_6 rfl) (fun h => add_is hp.lo hq.lo h) (fun h => add_is hp.hi hq.hi h) (by have := hp.le; have := hq.le; grind)
  · have hl := h2 (.inr (.inl rfl))
    obtain ⟨u, w, hp⟩ := h 0 (by omega)
    obtain ⟨u', w', hq⟩ := h 1 (by omega)
    exact same67 (bnC_7 rfl) (brC_7 rfl) (fun h => sub_is hp.lo hq.hi h) (fun h => sub_is hp.hi hq.lo h) (by have := hp.le; have := hq.le; grind)
  · have hl := h2 (.inr (.inr (.inl rfl)))
    obtain ⟨u, w, hp⟩ := h 0 (by omega)
    obtain ⟨u', w', hq⟩ := h 1 (by omega)
    rw [bnC_8 rfl, brC_8 rfl]
    exact same89 hp hq fun p q u w h1 h2 h3 h4 => mul_is h1 h2 h4
  · have hl := h2 (.inr (.inr (.inr rfl)))
    obtain ⟨u, w, hp⟩ := h 0 (by omega)
    obtain ⟨u', w', hq⟩ := h 1 (by omega)
    exact same9 hp hq
  · exact same_z hk (by have := h3 hk; omega) h
end
theorem num_ok {n d : Int} (h : numB n d = true) : ok n d = true := by
  unfold numB at h
  simp only [Bool.and_eq_true] at h
  have h := h.1.1
  unfold decF at h
  cases hk : ok n d with
  | true => rfl
  | false => rw [hk] at h; cases h
theorem br_same {L : List Fc} (hv : VF L) (n : Nat) : ∀ x : Ex, ht x ≤ n → sndE x = true → (tyW L x).2.2 = 0 → (tyW L x).1 = 0 → Same (brE L x) (bnE (revF L L.length) x) := by
  induction n using Nat.strongRecOn with
  | _ n ih =>
  intro x hx hsn hty hty0
  have hnum := num_of _ _ (Nat.le_refl _) hsn hty hty0
  have hkn := numE_k hnum
  rw [brE_eq, bnE_eq]
  by_cases k1 : x.k = 1
  · rw [if_pos k1, if_pos k1]
    have hok := num_ok (snd_num hsn k1)
    exact same_in (u := qv x.n x.d) (w := qv x.n x.d) rfl rfl ⟨⟨hok, rfl⟩, ⟨hok, rfl⟩, Rat.le_refl⟩ ⟨⟨hok, rfl⟩, ⟨hok, rfl⟩, Rat.le_refl⟩
  rw [if_neg k1, if_neg k1]
  by_cases k2 : x.k = 2
  · rw [if_pos k2, if_pos k2]
    obtain ⟨n1, n2⟩ := (ty_node hsn hty).2.2 k2
    have h0 : (tyE (revF L L.length) (revW L L.length) x).1 = 0 := hty0
    rw [h0] at n1
    have hH : fH (revF L L.length) (.string x.s) = true := by
      cases hc : fH (revF L L.length) (.string x.s) with
      | true => rfl
      | false =>
        exfalso
        unfold nmK at n1 n2
        rw [if_neg (by rw [hc]; decide)] at n1 n2
        split at n1
        · simp at n1
        · rename_i hw
          rw [if_neg hw] at n2
          simp at n2
    have hk0 : (fM (revF L L.length) (.string x.s)).kind = 0 := by
      unfold nmK at n1
      rw [if_pos hH] at n1
      exact n1.symm
    rw [fnd_fM hv (fnd_fH.2 hH)] at hk0 ⊢
    have hm := getD_mem (x0 := fc0) (fnd_hit (fnd_fH.2 hH)).1
    rcases dsc_kind (hv.ds _ hm) with hd | hd | hd
    · generalize L.getD (fndI L x.s).toNat fc0 = f at *
      have ho := hd.2.1
      unfold ok2 at ho
      simp only [Bool.and_eq_true] at ho
      have hle := (cmp_is (p := (f.ln, f.ld)) (q := (f.hn, f.hd)) ⟨ho.1, rfl⟩ ⟨ho.2, rfl⟩).2.2.1 hd.2.2.1
      exact same_in (u := qv f.ln f.ld) (w := qv f.hn f.hd) rfl rfl ⟨⟨ho.1, rfl⟩, ⟨ho.2, rfl⟩, hle⟩ ⟨⟨ho.1, rfl⟩, ⟨ho.2, rfl⟩, hle⟩
    · have := hd.1; omega
    · have := hd.1; omega
  rw [if_neg k2, if_neg k2]
  have hk5 : 5 ≤ x.k ∧ x.k ≤ 11 := by omega
  have hkid : ∀ i, i < x.kids.length → Same (brE L (x.kids.getD i ex0)) (bnE (revF L L.length) (x.kids.getD i ex0)) := fun i hi => by
    have := ht_kid hi
    exact ih (n - 1) (by omega) _ (by omega) (snd_kid hsn hi) ((tyE_fine hty).1 i hi) ((ty_kids hty).1 (.inl hk5) i hi)
  cases hany : (bnL (revF L L.length) x.kids).any (fun r => !r.2) with
  | true =>
    rw [if_pos rfl]
    have : (brL L x.kids).any (fun r => !r.2) = true := by
      rw [List.any_eq_true] at hany ⊢
      obtain ⟨r, hr, h2⟩ := hany
      rw [bnL_map] at hr
      obtain ⟨y, hy, rfl⟩ := List.mem_map.1 hr
      obtain ⟨i, hi, rfl⟩ := List.getElem_of_mem hy
      have hs := hkid i hi
      rw [List.getD, List.getElem?_eq_getElem hi] at hs
      have hs : Same (brE L x.kids[i]) (bnE (revF L L.length) x.kids[i]) := hs
      refine ⟨brE L x.kids[i], ?_, by rw [hs.1]; exact h2⟩
      rw [brL_map]
      exact List.mem_map.2 ⟨_, List.getElem_mem hi, rfl⟩
    rw [if_pos this]
    exact same_bad rfl rfl
  | false =>
    have hgood : ∀ i, i < x.kids.length → (bnE (revF L L.length) (x.kids.getD i ex0)).2 = true := fun i hi => by
      rw [List.any_eq_false] at hany
      have := hany (bnE (revF L L.length) (x.kids.getD i ex0)) (by rw [bnL_map]; exact List.mem_map.2 ⟨_, kid_mem hi, rfl⟩)
      simpa using this
    have hR : brL L x.kids = bnL (revF L L.length) x.kids := by
      rw [brL_map, bnL_map]
      refine List.map_congr_left fun y hy => ?_
      obtain ⟨i, hi, rfl⟩ := List.getElem_of_mem hy
      have h1 := hkid i hi
      have h2 := hgood i hi
      rw [List.getD, List.getElem?_eq_getElem hi] at h1 h2
      exact (h1.2.1 h2).2
    rw [hR, hany, if_neg (by decide), if_neg (by decide)]
    have hRl : (bnL (revF L L.length) x.kids).length = x.kids.length := by rw [bnL_map, List.length_map]
    have hone := @snd_one x hsn
    have htwo := @snd_two x hsn
    have hmany := @snd_many x hsn
    refine same_all hk5 (fun h => ?_) (fun h => ?_) (fun h => ?_) fun i hi => ?_
    · rw [hRl]; have := hone (.inl h); omega
    · rw [hRl]; have := (htwo (by omega)).1; omega
    · rw [hRl]; exact hmany h
    · rw [hRl] at hi
      rw [bnL_get hi]
      exact ((hkid i hi).2.1 (hgood i hi)).1
end Go.Proofs
