import Derived.Test.YthijempdiheabaaDoorFb
import Derived.Test.YthijempdiheabaaDoorF7
set_option autoImplicit false
namespace Go.Proofs
open Go Go.Ab
theorem dvd_cop {q p d : Int} (h : q ∣ p * d) (g : Int.gcd q p = 1) : q ∣ d := by
  have := Int.dvd_coe_gcd (a := q * d) (b := p * d) (c := q) ⟨d, rfl⟩ h
  rw [Int.gcd_mul_right, g, Nat.one_mul] at this
  exact Int.dvd_natAbs.1 this
def qv (n d : Int) : Rat := (n : Rat) / (d : Rat)
theorem cast_ne {d : Int} (h : d ≠ 0) : (d : Rat) ≠ 0 := by
  intro hh; exact h (by exact_mod_cast hh)
theorem qv_eq {p q n d : Int} (hq : q ≠ 0) (hd : d ≠ 0) : qv p q = qv n d ↔ p * d = n * q := by
  have h1 := cast_ne hq
  have h2 := cast_ne hd
  unfold qv
  constructor
  · intro h
    have : (p : Rat) * d = n * q := by grind
    exact_mod_cast this
  · intro h
    have : (p : Rat) * d = n * q := by exact_mod_cast h
    grind
theorem ok_pos {n d : Int} (h : ok n d = true) : 0 < d := by have := ok_spec h; omega
theorem ok_uniq {p q n d : Int} (h1 : ok p q = true) (h2 : ok n d = true) (h : qv p q = qv n d) : p = n ∧ q = d := by
  have hq := ok_pos h1
  have hd := ok_pos h2
  rw [qv_eq (by omega) (by omega)] at h
  have g1 := (ok_spec h1).2.2.2.2
  have g2 := (ok_spec h2).2.2.2.2
  have d1 : q ∣ d := by
    have : q ∣ p * d := ⟨n, by rw [h, Int.mul_comm]⟩
    exact dvd_cop this (by rw [Int.gcd_comm]; exact g1)
  have d2 : d ∣ q := by
    have : d ∣ n * q := ⟨p, by rw [← h, Int.mul_comm]⟩
    exact dvd_cop this (by rw [Int.gcd_comm]; exact g2)
  have hqd : q = d := Int.le_antisymm (Int.le_of_dvd hd d1) (Int.le_of_dvd hq d2)
  subst hqd
  exact ⟨Int.eq_of_mul_eq_mul_right (by omega) h, rfl⟩
theorem red1_spec {n d : Int} (hd : 0 < d) : (∀ p q, ok p q = true → qv p q = qv n d → red1 n d = (p, q, 0)) ∧ ((red1 n d).2.2 = 0 → ok (red1 n d).1 (red1 n d).2.1 = true ∧ qv (red1 n d).1 (red1 n d).2.1 = qv n d) ∧ ((red1 n d).2.2 ≠ 0 → red1 n d = (0, 0, 2)) := by
  have hg := gcd_pos' (n := n) hd
  obtain ⟨a, ha⟩ := Int.gcd_dvd_left (a := n) (b := d)
  obtain ⟨b, hb⟩ := Int.gcd_dvd_right (a := n) (b := d)
  have e1 : n.tdiv (Int.gcd n d) = a := by rw [show n.tdiv (Int.gcd n d) = ((Int.gcd n d : Int) * a).tdiv (Int.gcd n d) by rw [← ha]]; exact Int.mul_tdiv_cancel_left a (by omega)
  have e2 : d.tdiv (Int.gcd n d) = b := by rw [show d.tdiv (Int.gcd n d) = ((Int.gcd n d : Int) * b).tdiv (Int.gcd n d) by rw [← hb]]; exact Int.mul_tdiv_cancel_left b (by omega)
  have hb0 : 0 < b := by
    rcases Int.lt_or_le 0 b with h | h
    · exact h
    · have := Int.mul_nonpos_of_nonneg_of_nonpos (Int.le_of_lt hg) h; omega
  have hv : qv a b = qv n d := by
    rw [qv_eq (by omega) (by omega)]
    generalize (Int.gcd n d : Int) = g at *
    rw [ha, hb]; grind
  have hgab : Int.gcd a b = 1 := by
    have h3 : Int.gcd (n / (Int.gcd n d)) (d / (Int.gcd n d)) = 1 := Int.gcd_ediv_gcd_ediv_gcd_of_ne_zero_right (by omega)
    rw [← Int.tdiv_eq_ediv_of_dvd (Int.gcd_dvd_left ..), ← Int.tdiv_eq_ediv_of_dvd (Int.gcd_dvd_right ..), e1, e2] at h3
    exact h3
  unfold red1
  rw [e1, e2]
  refine ⟨fun p q hok hpq => ?_, ?_, ?_⟩
  · have hq := ok_pos hok
    have h := hpq.trans hv.symm
    rw [qv_eq (by omega) (by omega)] at h
    have g1 := (ok_spec hok).2.2.2.2
    have d1 : q ∣ b := by
      have : q ∣ p * b := ⟨a, by rw [h, Int.mul_comm]⟩
      exact dvd_cop this (by rw [Int.gcd_comm]; exact g1)
    have d2 : b ∣ q := by
      have : b ∣ a * q := ⟨p, by rw [← h, Int.mul_comm]⟩
      exact dvd_cop this (by rw [Int.gcd_comm]; exact hgab)
    have hqd : q = b := Int.le_antisymm (Int.le_of_dvd hb0 d1) (Int.le_of_dvd hq d2)
    subst hqd
    have : p = a := Int.eq_of_mul_eq_mul_right (by omega) h
    subst this
    rw [if_pos hok]
  · intro h0
    split at h0
    · rename_i hok; rw [if_pos hok]; exact ⟨hok, hv⟩
    · simp at h0
  · intro h0
    split at h0
    · simp at h0
    · rename_i hok; rw [if_neg hok]
theorem qv_neg (n d : Int) : qv (-n) (-d) = qv n d := by
  unfold qv; rw [Rat.intCast_neg, Rat.intCast_neg]; grind
theorem red_spec {n d : Int} (hd : d ≠ 0) : (∀ p q, ok p q = true → qv p q = qv n d → red n d = (p, q, 0)) ∧ ((red n d).2.2 = 0 → ok (red n d).1 (red n d).2.1 = true ∧ qv (red n d).1 (red n d).2.1 = qv n d) ∧ ((red n d).2.2 ≠ 0 → red n d = (0, 0, 2)) := by
  unfold red
  split
  · have := red1_spec (n := -n) (d := -d) (by omega)
    rw [qv_neg] at this; exact this
  · exact red1_spec (by omega)
/-- What red is: the fraction of a value. -/
theorem red_congr {n d n' d' : Int} (hd : d ≠ 0) (hd' : d' ≠ 0) (h : qv n d = qv n' d') : red n d = red n' d' := by
  obtain ⟨a1, a2, a3⟩ := red_spec (n := n) hd
  obtain ⟨b1, b2, b3⟩ := red_spec (n := n') hd'
  by_cases h1 : (red n d).2.2 = 0
  · have := b1 _ _ (a2 h1).1 ((a2 h1).2.trans h)
    rw [this, ← h1]
  · by_cases h2 : (red n' d').2.2 = 0
    · have := a1 _ _ (b2 h2).1 ((b2 h2).2.trans h.symm)
      rw [this] at h1; simp at h1
    · rw [a3 h1, b3 h2]
def cmpI (x y : Int) : Int := if x < y then -1 else if y < x then 1 else 0
def addF (a b c d : Int) : FE := opr (ok a b && ok c d) (opF 52 a b c d)
def mulF (a b c d : Int) : FE := opr (ok a b && ok c d) (opF 53 a b c d)
def subF (a b c d : Int) : FE := opr (ok a b && ok c d) (opF 54 a b c d)
def divF (a b c d : Int) : FE := opr (ok a b && ok c d) (opF 55 a b c d)
def cmpF (a b c d : Int) : Int := if ok a b && ok c d then cmpI (a * d) (c * b) else 0
def ok2 (a b c d : Int) : Bool := ok a b && ok c d
/-- x is the fraction with the value v, if there is one. -/
structure Spec (v : Rat) (x : FE) : Prop where
  val : x.2.2 = 0 → ok x.1 x.2.1 = true ∧ qv x.1 x.2.1 = v
  unq : ∀ p q, ok p q = true → qv p q = v → x = (p, q, 0)
  bad : x.2.2 ≠ 0 → x = (0, 0, 2)
theorem red_is {n d : Int} (hd : d ≠ 0) {v : Rat} (hv : v = qv n d) : Spec v (red n d) := by
  obtain ⟨h1, h2, h3⟩ := red_spec (n := n) hd
  subst hv; exact ⟨h2, h1, h3⟩
theorem Spec.eq {v : Rat} {x y : FE} (h : Spec v x) (k : Spec v y) : x = y := by
  by_cases h0 : x.2.2 = 0
  · obtain ⟨h1, h2⟩ := h.val h0
    rw [k.unq _ _ h1 h2, ← h0]
  · by_cases k0 : y.2.2 = 0
    · obtain ⟨h1, h2⟩ := k.val k0
      rw [h.unq _ _ h1 h2] at h0; simp at h0
    · rw [h.bad h0, k.bad k0]
theorem den_ne {n d : Int} (h : ok n d = true) : d ≠ 0 := by have := ok_pos h; omega
theorem addF_is {a b c d : Int} (h1 : ok a b = true) (h2 : ok c d = true) : Spec (qv a b + qv c d) (addF a b c d) := by
  have hb := den_ne h1
  have hd := den_ne h2
  have hbd : b * d ≠ 0 := Int.mul_ne_zero hb hd
  simp only [addF, opr, h1, h2, opF, Bool.and_self, if_true, hbd, if_false]
  refine red_is hbd ?_
  have := cast_ne hb
  have := cast_ne hd
  simp only [qv, Rat.intCast_add, Rat.intCast_mul]; grind
theorem subF_is {a b c d : Int} (h1 : ok a b = true) (h2 : ok c d = true) : Spec (qv a b - qv c d) (subF a b c d) := by
  have hb := den_ne h1
  have hd := den_ne h2
  have hbd : b * d ≠ 0 := Int.mul_ne_zero hb hd
  simp only [subF, opr, h1, h2, opF, Bool.and_self, if_true, hbd, if_false]
  refine red_is hbd ?_
  have := cast_ne hb
  have := cast_ne hd
  simp only [qv, Rat.intCast_sub, Rat.intCast_mul]; grind
theorem mulF_is {a b c d : Int} (h1 : ok a b = true) (h2 : ok c d = true) : Spec (qv a b * qv c d) (mulF a b c d) := by
  have hb := den_ne h1
  have hd := den_ne h2
  have hbd : b * d ≠ 0 := Int.mul_ne_zero hb hd
  simp only [mulF, opr, h1, h2, opF, Bool.and_self, if_true, hbd, if_false]
  refine red_is hbd ?_
  have := cast_ne hb
  have := cast_ne hd
  simp only [qv, Rat.intCast_mul]; grind
theorem divF_is {a b c d : Int} (h1 : ok a b = true) (h2 : ok c d = true) (hc : c ≠ 0) : Spec (qv a b / qv c d) (divF a b c d) := by
  have hb := den_ne h1
  have hd := den_ne h2
  have hbc : b * c ≠ 0 := Int.mul_ne_zero hb hc
  simp only [divF, opr, h1, h2, opF, Bool.and_self, if_true, hbc, if_false]
  refine red_is hbc ?_
  have := cast_ne hb
  have := cast_ne hd
  have := cast_ne hc
  simp only [qv, Rat.intCast_mul]; grind
theorem opr_bad {a b c d : Int} (h : ¬ (ok a b = true ∧ ok c d = true)) (x : Int × Int) : opr (ok a b && ok c d) x = (0, 0, 1) := by
  have : (ok a b && ok c d) = false := by cases h1 : ok a b <;> cases h2 : ok c d <;> simp_all
  simp [opr, this]
theorem addF_comm (a b c d : Int) : addF a b c d = addF c d a b := by
  by_cases h : ok a b = true ∧ ok c d = true
  · have := addF_is h.2 h.1
    rw [Rat.add_comm] at this
    exact (addF_is h.1 h.2).eq this
  · rw [addF, addF, opr_bad h, opr_bad (fun k => h ⟨k.2, k.1⟩)]
theorem mulF_comm (a b c d : Int) : mulF a b c d = mulF c d a b := by
  by_cases h : ok a b = true ∧ ok c d = true
  · have := mulF_is h.2 h.1
    rw [Rat.mul_comm] at this
    exact (mulF_is h.1 h.2).eq this
  · rw [mulF, mulF, opr_bad h, opr_bad (fun k => h ⟨k.2, k.1⟩)]
theorem brec (x y : Bool) : (Bool.rec false x y : Bool) = (y && x) := by cases y <;> rfl
theorem addF_ok {a b c d : Int} (h : (addF a b c d).2.2 = 0) : ok a b = true ∧ ok c d = true := by
  refine Classical.byContradiction fun k => ?_
  rw [addF, opr_bad k] at h; simp at h
theorem mulF_ok {a b c d : Int} (h : (mulF a b c d).2.2 = 0) : ok a b = true ∧ ok c d = true := by
  refine Classical.byContradiction fun k => ?_
  rw [mulF, opr_bad k] at h; simp at h
theorem subF_ok {a b c d : Int} (h : (subF a b c d).2.2 = 0) : ok a b = true ∧ ok c d = true := by
  refine Classical.byContradiction fun k => ?_
  rw [subF, opr_bad k] at h; simp at h
theorem qv_ne {c d : Int} (hc : c ≠ 0) (hd : d ≠ 0) : qv c d ≠ 0 := by
  have := cast_ne hc
  have := cast_ne hd
  unfold qv; grind
theorem sub_back {a b c d : Int} (h : (addF a b c d).2.2 = 0) : subF (addF a b c d).1 (addF a b c d).2.1 c d = (a, b, 0) := by
  obtain ⟨h1, h2⟩ := addF_ok h
  obtain ⟨h3, h4⟩ := (addF_is h1 h2).val h
  refine (subF_is h3 h2).unq a b h1 ?_
  rw [h4]; grind
theorem div_back {a b c d : Int} (h : (mulF a b c d).2.2 = 0) (hc : c ≠ 0) : divF (mulF a b c d).1 (mulF a b c d).2.1 c d = (a, b, 0) := by
  obtain ⟨h1, h2⟩ := mulF_ok h
  obtain ⟨h3, h4⟩ := (mulF_is h1 h2).val h
  refine (divF_is h3 h2 hc).unq a b h1 ?_
  have := qv_ne hc (den_ne h2)
  rw [h4]; grind
theorem distrib {a b c d e f : Int} (h1 : (addF a b c d).2.2 = 0) (h2 : (mulF (addF a b c d).1 (addF a b c d).2.1 e f).2.2 = 0) (h3 : (mulF a b e f).2.2 = 0) (h4 : (mulF c d e f).2.2 = 0)
    (h5 : (addF (mulF a b e f).1 (mulF a b e f).2.1 (mulF c d e f).1 (mulF c d e f).2.1).2.2 = 0) :
    mulF (addF a b c d).1 (addF a b c d).2.1 e f = addF (mulF a b e f).1 (mulF a b e f).2.1 (mulF c d e f).1 (mulF c d e f).2.1 := by
  obtain ⟨o1, o2⟩ := addF_ok h1
  obtain ⟨p1, p2⟩ := (addF_is o1 o2).val h1
  obtain ⟨_, o3⟩ := mulF_ok h3
  obtain ⟨q1, q2⟩ := (mulF_is o1 o3).val h3
  obtain ⟨r1, r2⟩ := (mulF_is o2 o3).val h4
  have s1 := mulF_is p1 o3
  have s2 := addF_is q1 r1
  rw [p2] at s1
  rw [q2, r2] at s2
  rw [show (qv a b + qv c d) * qv e f = qv a b * qv e f + qv c d * qv e f by grind] at s1
  exact s1.eq s2
end Go.Proofs
