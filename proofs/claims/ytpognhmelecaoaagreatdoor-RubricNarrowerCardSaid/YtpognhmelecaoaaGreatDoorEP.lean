import Derived.Test.YtpognhmelecaoaaGreatDoorEN
/- Bounds, plain: what they are as numbers. -/
set_option autoImplicit false
namespace Go.Proofs
open Go Go.Ab Go.RowKit
set_option maxHeartbeats 1000000
def Is (p : Fr2) (v : Rat) : Prop := ok p.1 p.2 = true ∧ qv p.1 p.2 = v
def mn (u w : Rat) : Rat := if w < u then w else u
def mx (u w : Rat) : Rat := if u < w then w else u
theorem cmp_is {p q : Fr2} {u w : Rat} (h1 : Is p u) (h2 : Is q w) : (cmpF p.1 p.2 q.1 q.2 > 0 ↔ w < u) ∧ (cmpF p.1 p.2 q.1 q.2 < 0 ↔ u < w) ∧ (cmpF p.1 p.2 q.1 q.2 ≤ 0 ↔ u ≤ w) := by
  rw [cmpF_eq h1.1 h2.1, h1.2, h2.2]
  unfold cmpR
  grind
theorem le_is {a b c d : Int} {u w : Rat} (h1 : Is (a, b) u) (h2 : Is (c, d) w) : Is (leN a b c d, leD a b c d) (mn u w) := by
  obtain ⟨k1, _, _⟩ := cmp_is h1 h2
  unfold leN leD cmpO mn
  by_cases h : cmpF a b c d > 0
  · rw [if_pos h, if_pos h, if_pos (k1.1 h)]; exact h2
  · rw [if_neg h, if_neg h, if_neg (fun hh => h (k1.2 hh))]; exact h1
theorem gr_is {a b c d : Int} {u w : Rat} (h1 : Is (a, b) u) (h2 : Is (c, d) w) : Is (grN a b c d, grD a b c d) (mx u w) := by
  obtain ⟨_, k1, _⟩ := cmp_is h1 h2
  unfold grN grD cmpO mx
  by_cases h : cmpF a b c d < 0
  · rw [if_pos h, if_pos h, if_pos (k1.1 h)]; exact h2
  · rw [if_neg h, if_neg h, if_neg (fun hh => h (k1.2 hh))]; exact h1
/-! Least and greatest of some values. -/
def fmn (V : Nat → Rat) : Nat → Rat
  | 0 => V 0
  | n + 1 => mn (fmn V n) (V n)
def fmx (V : Nat → Rat) : Nat → Rat
  | 0 => V 0
  | n + 1 => mx (fmx V n) (V n)
def emn (V : Nat → Rat) : Nat → Rat
  | 0 => V 0
  | n + 1 => mn (emn V n) (V (n + 1))
def emx (V : Nat → Rat) : Nat → Rat
  | 0 => V 0
  | n + 1 => mx (emx V n) (V (n + 1))
theorem mn_le (u w : Rat) : mn u w ≤ u ∧ mn u w ≤ w ∧ (mn u w = u ∨ mn u w = w) := by unfold mn; grind
theorem mx_le (u w : Rat) : u ≤ mx u w ∧ w ≤ mx u w ∧ (mx u w = u ∨ mx u w = w) := by unfold mx; grind
theorem emn_is (V : Nat → Rat) : ∀ n, (∀ i, i ≤ n → emn V n ≤ V i) ∧ ∃ i, i ≤ n ∧ emn V n = V i
  | 0 => ⟨fun i hi => by obtain rfl : i = 0 := by omega
                         exact Rat.le_refl, 0, Nat.le_refl _, rfl⟩
  | n + 1 => by
    obtain ⟨h1, j, hj, h2⟩ := emn_is V n
    obtain ⟨a, b, c⟩ := mn_le (emn V n) (V (n + 1))
    refine ⟨fun i hi => ?_, ?_⟩
    · show mn _ _ ≤ _
      rcases Nat.lt_or_ge i (n + 1) with h | h
      · exact Rat.le_trans a (h1 i (by omega))
      · obtain rfl : i = n + 1 := by omega
        exact b
    · rcases c with c | c
      · exact ⟨j, by omega, by show mn _ _ = _; rw [c, h2]⟩
      · exact ⟨n + 1, Nat.le_refl _, c⟩
theorem emx_is (V : Nat → Rat) : ∀ n, (∀ i, i ≤ n → V i ≤ emx V n) ∧ ∃ i, i ≤ n ∧ emx V n = V i
  | 0 => ⟨fun i hi => by obtain rfl : i = 0 := by omega
                         exact Rat.le_refl, 0, Nat.le_refl _, rfl⟩
  | n + 1 => by
    obtain ⟨h1, j, hj, h2⟩ := emx_is V n
    obtain ⟨a, b, c⟩ := mx_le (emx V n) (V (n + 1))
    refine ⟨fun i hi => ?_, ?_⟩
    · show _ ≤ mx _ _
      rcases Nat.lt_or_ge i (n + 1) with h | h
      · exact Rat.le_trans (h1 i (by omega)) a
      · obtain rfl : i = n + 1 := by omega
        exact b
    · rcases c with c | c
      · exact ⟨j, by omega, by show mx _ _ = _; rw [c, h2]⟩
      · exact ⟨n + 1, Nat.le_refl _, c⟩
theorem fmn_emn (V : Nat → Rat) : ∀ n, fmn V (n + 1) = emn V n
  | 0 => by show mn (V 0) (V 0) = V 0; unfold mn; grind
  | n + 1 => by show mn (fmn V (n + 1)) (V (n + 1)) = mn (emn V n) (V (n + 1)); rw [fmn_emn V n]
theorem fmx_emx (V : Nat → Rat) : ∀ n, fmx V (n + 1) = emx V n
  | 0 => by show mx (V 0) (V 0) = V 0; unfold mx; grind
  | n + 1 => by show mx (fmx V (n + 1)) (V (n + 1)) = mx (emx V n) (V (n + 1)); rw [fmx_emx V n]
/-! Bounds with values. -/
structure In (b : Bd) (u w : Rat) : Prop where
  lo : Is (b.a, b.b) u
  hi : Is (b.c, b.d) w
  le : u ≤ w
def cv (f : Rat → Rat → Rat) (u w u' w' : Rat) (n : Nat) : Rat := f (if n / 2 = 0 then u else w) (if n % 2 = 0 then u' else w')
theorem mn_is {op : Int → Int → Int → Int → FE} {x y : Bd} {V : Nat → Rat} (h : ∀ n, n < 4 → Is ((cnR op x y n).1, (cnR op x y n).2.1) (V n)) : ∀ n, n ≤ 4 →
    Is ((mnR op x y n).a, (mnR op x y n).b) (fmn V n) ∧ Is ((mnR op x y n).c, (mnR op x y n).d) (fmx V n)
  | 0, _ => ⟨h 0 (by omega), h 0 (by omega)⟩
  | n + 1, hn => by
    obtain ⟨h1, h2⟩ := mn_is h n (by omega)
    exact ⟨le_is h1 (h n (by omega)), gr_is h2 (h n (by omega))⟩
theorem cn_in {op : Int → Int → Int → Int → FE} {x y : Bd} {V : Nat → Rat} (h : ∀ n, n < 4 → Is ((cnR op x y n).1, (cnR op x y n).2.1) (V n)) (hb : cnBad op x y = false) : In (cnB op x y) (emn V 3) (emx V 3) := by
  obtain ⟨h1, h2⟩ := mn_is h 4 (Nat.le_refl _)
  have e : cnB op x y = mnR op x y 4 := by unfold cnB; rw [hb]; rfl
  rw [e]
  refine ⟨by rw [← fmn_emn]; exact h1, by rw [← fmx_emx]; exact h2, ?_⟩
  exact Rat.le_trans ((emn_is V 3).1 0 (by omega)) ((emx_is V 3).1 0 (by omega))
theorem bad_get {op : Int → Int → Int → Int → FE} {x y : Bd} (hb : cnBad op x y = false) {n : Nat} (hn : n < 4) : (cnR op x y n).2.2 = 0 := by
  refine Classical.byContradiction fun h => ?_
  rw [cn_bad hn h] at hb; cases hb
theorem cnR_is {op : Int → Int → Int → Int → FE} {f : Rat → Rat → Rat} {x y : Bd} {u w u' w' : Rat} (hx : In x u w) (hy : In y u' w')
    (hop : ∀ p q u w, Is p u → Is q w → (w = u' ∨ w = w') → (op p.1 p.2 q.1 q.2).2.2 = 0 → Is ((op p.1 p.2 q.1 q.2).1, (op p.1 p.2 q.1 q.2).2.1) (f u w)) (hb : cnBad op x y = false) :
    ∀ n, n < 4 → Is ((cnR op x y n).1, (cnR op x y n).2.1) (cv f u w u' w' n) := by
  intro n hn
  have hg := bad_get hb hn
  have hlo : Is ((loP x).getD (n / 2) (0, 0)) (if n / 2 = 0 then u else w) := by
    rcases n with _ | _ | _ | _ | n
    · exact hx.lo
    · exact hx.lo
    · exact hx.hi
    · exact hx.hi
    · omega
  have hly : Is ((loP y).getD (n % 2) (0, 0)) (if n % 2 = 0 then u' else w') := by
    rcases n with _ | _ | _ | _ | n
    · exact hy.lo
    · exact hy.hi
    · exact hy.lo
    · exact hy.hi
    · omega
  exact hop _ _ _ _ hlo hly (by split <;> simp) hg
theorem add_is {p q : Fr2} {u w : Rat} (h1 : Is p u) (h2 : Is q w) (h : (addF p.1 p.2 q.1 q.2).2.2 = 0) : Is ((addF p.1 p.2 q.1 q.2).1, (addF p.1 p.2 q.1 q.2).2.1) (u + w) := by
  have := (addF_is h1.1 h2.1).val h
  rw [h1.2, h2.2] at this; exact this
theorem sub_is {p q : Fr2} {u w : Rat} (h1 : Is p u) (h2 : Is q w) (h : (subF p.1 p.2 q.1 q.2).2.2 = 0) : Is ((subF p.1 p.2 q.1 q.2).1, (subF p.1 p.2 q.1 q.2).2.1) (u - w) := by
  have := (subF_is h1.1 h2.1).val h
  rw [h1.2, h2.2] at this; exact this
theorem mul_is {p q : Fr2} {u w : Rat} (h1 : Is p u) (h2 : Is q w) (h : (mulF p.1 p.2 q.1 q.2).2.2 = 0) : Is ((mulF p.1 p.2 q.1 q.2).1, (mulF p.1 p.2 q.1 q.2).2.1) (u * w) := by
  have := (mulF_is h1.1 h2.1).val h
  rw [h1.2, h2.2] at this; exact this
theorem num_ne {q : Fr2} {w : Rat} (h2 : Is q w) (hw : w ≠ 0) : q.1 ≠ 0 := by
  intro h
  apply hw
  rw [← h2.2, h]
  unfold qv
  rw [show ((0 : Int) : Rat) = 0 from rfl, Rat.div_def, Rat.zero_mul]
theorem div_is {p q : Fr2} {u w : Rat} (h1 : Is p u) (h2 : Is q w) (hw : w ≠ 0) (h : (divF p.1 p.2 q.1 q.2).2.2 = 0) : Is ((divF p.1 p.2 q.1 q.2).1, (divF p.1 p.2 q.1 q.2).2.1) (u / w) := by
  have := (divF_is h1.1 h2.1 (num_ne h2 hw)).val h
  rw [h1.2, h2.2] at this; exact this
theorem is_pos {p : Fr2} {u : Rat} (h : Is p u) : (p.1 > 0 ↔ 0 < u) ∧ (p.1 < 0 ↔ u < 0) ∧ (p.1 ≥ 0 ↔ 0 ≤ u) ∧ (p.1 ≤ 0 ↔ u ≤ 0) := by
  have hp := ok_pos h.1
  have e1 := qv_lt (a := 0) (b := 1) (c := p.1) (d := p.2) (by omega) hp
  have e2 := qv_lt (a := p.1) (b := p.2) (c := 0) (d := 1) hp (by omega)
  have z : qv 0 1 = 0 := by unfold qv; rw [show ((0 : Int) : Rat) = 0 from rfl, Rat.div_def, Rat.zero_mul]
  rw [z, h.2] at e1 e2
  simp only [Int.zero_mul, Int.mul_one] at e1 e2
  refine ⟨e1.symm, e2.symm, ?_, ?_⟩
  · constructor
    · intro hh; rw [← Rat.not_lt]; intro hc; have := e2.1 hc; omega
    · intro hh; rw [← Rat.not_lt] at hh; refine Classical.byContradiction fun hc => hh (e2.2 (by omega))
  · constructor
    · intro hh; rw [← Rat.not_lt]; intro hc; have := e1.1 hc; omega
    · intro hh; rw [← Rat.not_lt] at hh; refine Classical.byContradiction fun hc => hh (e1.2 (by omega))
theorem zero_is : Is (0, 1) 0 := ⟨by decide, by unfold qv; rw [show ((0 : Int) : Rat) = 0 from rfl, Rat.div_def, Rat.zero_mul]⟩
theorem zero_in : In ⟨0, 1, 0, 1⟩ 0 0 := ⟨zero_is, zero_is, Rat.le_refl⟩
end Go.Proofs
/- The reference's bounds, plain: the same ones. -/
set_option autoImplicit false
namespace Go.Proofs
open Go Go.Ab Go.RowKit
set_option maxHeartbeats 1000000
/-! Extremes. -/
def g2 (l : List Fr2) (i : Nat) : Fr2 := l.getD i (0, 0)
/-! Corners in the one order and in the other. -/
end Go.Proofs
/- The reference's bounds, plain: definitions. -/
set_option autoImplicit false
namespace Go.Proofs
open Go Go.Ab Go.RowKit
section
variable {k : Int} {R : List BR}
end
end Go.Proofs
/- The bounds of the program and of the reference are the same. -/
set_option autoImplicit false
namespace Go.Proofs
open Go Go.Ab Go.RowKit
set_option maxHeartbeats 1000000
section
variable {R : List BR}
theorem fold_is {mxB : Bool} {Vl Vh : Nat → Rat} (h : ∀ n, n < R.length → Is ((R.getD n (bd0, true)).1.a, (R.getD n (bd0, true)).1.b) (Vl n) ∧ Is ((R.getD n (bd0, true)).1.c, (R.getD n (bd0, true)).1.d) (Vh n)) (h0 : 0 < R.length) : ∀ n, n ≤ R.length →
    Is ((foldB mxB R n).a, (foldB mxB R n).b) (if mxB then fmx Vl n else fmn Vl n) ∧ Is ((foldB mxB R n).c, (foldB mxB R n).d) (if mxB then fmx Vh n else fmn Vh n)
  | 0, _ => by
    obtain ⟨a, b⟩ := h 0 h0
    cases mxB
    · exact ⟨a, b⟩
    · exact ⟨a, b⟩
  | n + 1, hn => by
    obtain ⟨a, b⟩ := h n (by omega)
    have ih := fold_is (mxB := mxB) h h0 n (by omega)
    cases mxB with
    | false => exact ⟨le_is ih.1 a, le_is ih.2 b⟩
    | true => exact ⟨gr_is ih.1 a, gr_is ih.2 b⟩
end
end Go.Proofs
/- The bounds of an expression: the program's and the reference's. -/
set_option autoImplicit false
namespace Go.Proofs
open Go Go.Ab Go.RowKit
set_option maxHeartbeats 1000000
section
variable {R : List BR}
end
theorem num_ok {n d : Int} (h : numB n d = true) : ok n d = true := by
  unfold numB at h
  simp only [Bool.and_eq_true] at h
  have h := h.1.1
  unfold decF at h
  cases hk : ok n d with
  | true => rfl
  | false => rw [hk] at h; cases h
end Go.Proofs
