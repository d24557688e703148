import Derived.Test.YtpognhmelecaoaaGreatDoorEN
import Derived.Test.YtpognhmelecaoaaGreatDoorEI
import Derived.Test.YtpognhmelecaoaaGreatDoorEP
import Derived.Test.YtpognhmelecaoaaGreatDoorAcD
import Derived.Test.YtpognhmelecaoaaGreatDoorER
import Derived.Test.YtpognhmelecaoaaGreatDoorEM
import Derived.Test.YtpognhmelecaoaaGreatDoorFB
/- Descriptions of facts that do not occur matter for nothing. -/
set_option autoImplicit false
namespace Go.Proofs
open Go Go.Ab Go.RowKit
set_option maxHeartbeats 4000000
def AG (L S : List Fc) (x : Ex) : Prop := ∀ s, occE s x = true → fH (revF S S.length) (.string s) = fH (revF L L.length) (.string s) ∧ fM (revF S S.length) (.string s) = fM (revF L L.length) (.string s)
theorem occ_kid {s : ByteArray} {x : Ex} {i : Nat} (hi : i < x.kids.length) (h : occE s (x.kids.getD i ex0) = true) : occE s x = true := by
  rw [occE_eq, Bool.or_eq_true]
  exact .inr (List.any_eq_true.2 ⟨_, kid_mem hi, h⟩)
theorem AG.kid {L S : List Fc} {x : Ex} (h : AG L S x) {i : Nat} (hi : i < x.kids.length) : AG L S (x.kids.getD i ex0) := fun s hs => h s (occ_kid hi hs)
theorem AG.nm {L S : List Fc} {x : Ex} (h : AG L S x) (hk : x.k = 2) : fH (revF S S.length) (.string x.s) = fH (revF L L.length) (.string x.s) ∧ fM (revF S S.length) (.string x.s) = fM (revF L L.length) (.string x.s) :=
  h x.s (by rw [occE_eq, hk, decide_eq_true rfl]; rfl)
section
variable {L : List Fc} {x : Ex} (h2 : (typR L x).2.2 = 0) (h1 : (typR L x).1 ≠ 2) (h32 : L.length ≤ 32)
include h2 h1
include h32
end
end Go.Proofs
/- Bounds within bounds: narrower operands have narrower results. -/
set_option autoImplicit false
namespace Go.Proofs
open Go Go.Ab Go.RowKit
set_option maxHeartbeats 1000000
def Inn (b c : Bd) : Prop := ∃ u w v z : Rat, In b u w ∧ In c v z ∧ u ≤ v ∧ z ≤ w
theorem bil_up {u w u' w' a b : Rat} (h1 : u ≤ a) (h2 : a ≤ w) (h3 : u' ≤ b) (h4 : b ≤ w') : a * b ≤ u * u' ∨ a * b ≤ u * w' ∨ a * b ≤ w * u' ∨ a * b ≤ w * w' := by
  by_cases hb : 0 ≤ b
  · have e1 := Rat.mul_le_mul_of_nonneg_right h2 hb
    by_cases hw : 0 ≤ w
    · exact .inr (.inr (.inr (Rat.le_trans e1 (Rat.mul_le_mul_of_nonneg_left h4 hw))))
    · have e2 := Rat.mul_le_mul_of_nonneg_left h3 (show (0 : Rat) ≤ -w by grind)
      exact .inr (.inr (.inl (by grind)))
  · have e1 := Rat.mul_le_mul_of_nonneg_right h1 (show (0 : Rat) ≤ -b by grind)
    by_cases hu : 0 ≤ u
    · have e2 := Rat.mul_le_mul_of_nonneg_left h4 hu
      exact .inr (.inl (by grind))
    · have e2 := Rat.mul_le_mul_of_nonneg_left h3 (show (0 : Rat) ≤ -u by grind)
      exact .inl (by grind)
theorem bil_lo {u w u' w' a b : Rat} (h1 : u ≤ a) (h2 : a ≤ w) (h3 : u' ≤ b) (h4 : b ≤ w') : u * u' ≤ a * b ∨ u * w' ≤ a * b ∨ w * u' ≤ a * b ∨ w * w' ≤ a * b := by
  rcases bil_up (u := -w) (w := -u) (a := -a) (by grind) (by grind) h3 h4 with h | h | h | h
  · exact .inr (.inr (.inl (by grind)))
  · exact .inr (.inr (.inr (by grind)))
  · exact .inl (by grind)
  · exact .inr (.inl (by grind))
theorem mul_box {u w u' w' a b : Rat} (h1 : u ≤ a) (h2 : a ≤ w) (h3 : u' ≤ b) (h4 : b ≤ w') : emn (cv (· * ·) u w u' w') 3 ≤ a * b ∧ a * b ≤ emx (cv (· * ·) u w u' w') 3 := by
  have lo := (emn_is (cv (· * ·) u w u' w') 3).1
  have hi := (emx_is (cv (· * ·) u w u' w') 3).1
  have c0 : cv (· * ·) u w u' w' 0 = u * u' := rfl
  have c1 : cv (· * ·) u w u' w' 1 = u * w' := rfl
  have c2 : cv (· * ·) u w u' w' 2 = w * u' := rfl
  have c3 : cv (· * ·) u w u' w' 3 = w * w' := rfl
  constructor
  · rcases bil_lo h1 h2 h3 h4 with h | h | h | h
    · exact Rat.le_trans (by rw [← c0]; exact lo 0 (by omega)) h
    · exact Rat.le_trans (by rw [← c1]; exact lo 1 (by omega)) h
    · exact Rat.le_trans (by rw [← c2]; exact lo 2 (by omega)) h
    · exact Rat.le_trans (by rw [← c3]; exact lo 3 (by omega)) h
  · rcases bil_up h1 h2 h3 h4 with h | h | h | h
    · exact Rat.le_trans h (by rw [← c0]; exact hi 0 (by omega))
    · exact Rat.le_trans h (by rw [← c1]; exact hi 1 (by omega))
    · exact Rat.le_trans h (by rw [← c2]; exact hi 2 (by omega))
    · exact Rat.le_trans h (by rw [← c3]; exact hi 3 (by omega))
theorem inv_anti {a b : Rat} (h : 0 < a) (hab : a ≤ b) : b⁻¹ ≤ a⁻¹ := by
  have hb : 0 < b := by grind
  have ia := Rat.inv_pos.2 h
  have ib := Rat.inv_pos.2 hb
  have e := Rat.mul_le_mul_of_nonneg_right hab (Rat.le_of_lt (Rat.mul_pos ia ib))
  have e1 : a * (a⁻¹ * b⁻¹) = b⁻¹ := by rw [← Rat.mul_assoc, Rat.mul_inv_cancel _ (by grind), Rat.one_mul]
  have e2 : b * (a⁻¹ * b⁻¹) = a⁻¹ := by rw [Rat.mul_comm a⁻¹ b⁻¹, ← Rat.mul_assoc, Rat.mul_inv_cancel _ (by grind), Rat.one_mul]
  rw [e1, e2] at e; exact e
theorem inv_between {u' w' b : Rat} (h0 : 0 < u' ∨ w' < 0) (h3 : u' ≤ b) (h4 : b ≤ w') : w'⁻¹ ≤ b⁻¹ ∧ b⁻¹ ≤ u'⁻¹ := by
  rcases h0 with h0 | h0
  · exact ⟨inv_anti (by grind) h4, inv_anti h0 h3⟩
  · have n : ∀ x : Rat, x ≠ 0 → (-x)⁻¹ = -(x⁻¹) := fun x hx => by
      apply Rat.inv_eq_of_mul_eq_one
      have := Rat.mul_inv_cancel x hx
      grind
    have a1 := inv_anti (a := -w') (b := -b) (by grind) (by grind)
    have a2 := inv_anti (a := -b) (b := -u') (by grind) (by grind)
    rw [n _ (by grind), n _ (by grind)] at a1 a2
    constructor <;> grind
theorem div_box {u w u' w' a b : Rat} (h0 : 0 < u' ∨ w' < 0) (h1 : u ≤ a) (h2 : a ≤ w) (h3 : u' ≤ b) (h4 : b ≤ w') : emn (cv (· / ·) u w u' w') 3 ≤ a / b ∧ a / b ≤ emx (cv (· / ·) u w u' w') 3 := by
  obtain ⟨i1, i2⟩ := inv_between h0 h3 h4
  have lo := (emn_is (cv (· / ·) u w u' w') 3).1
  have hi := (emx_is (cv (· / ·) u w u' w') 3).1
  have c0 : cv (· / ·) u w u' w' 0 = u * u'⁻¹ := Rat.div_def ..
  have c1 : cv (· / ·) u w u' w' 1 = u * w'⁻¹ := Rat.div_def ..
  have c2 : cv (· / ·) u w u' w' 2 = w * u'⁻¹ := Rat.div_def ..
  have c3 : cv (· / ·) u w u' w' 3 = w * w'⁻¹ := Rat.div_def ..
  rw [Rat.div_def]
  constructor
  · rcases bil_lo h1 h2 i1 i2 with h | h | h | h
    · exact Rat.le_trans (by rw [← c1]; exact lo 1 (by omega)) h
    · exact Rat.le_trans (by rw [← c0]; exact lo 0 (by omega)) h
    · exact Rat.le_trans (by rw [← c3]; exact lo 3 (by omega)) h
    · exact Rat.le_trans (by rw [← c2]; exact lo 2 (by omega)) h
  · rcases bil_up h1 h2 i1 i2 with h | h | h | h
    · exact Rat.le_trans h (by rw [← c1]; exact hi 1 (by omega))
    · exact Rat.le_trans h (by rw [← c0]; exact hi 0 (by omega))
    · exact Rat.le_trans h (by rw [← c3]; exact hi 3 (by omega))
    · exact Rat.le_trans h (by rw [← c2]; exact hi 2 (by omega))
theorem cor_in {f : Rat → Rat → Rat} {u w u' w' v z v' z' : Rat} (hv : v ≤ z) (hv' : v' ≤ z') (h1 : u ≤ v) (h2 : z ≤ w) (h3 : u' ≤ v') (h4 : z' ≤ w')
    (hbox : ∀ a b, u ≤ a → a ≤ w → u' ≤ b → b ≤ w' → emn (cv f u w u' w') 3 ≤ f a b ∧ f a b ≤ emx (cv f u w u' w') 3) :
    emn (cv f u w u' w') 3 ≤ emn (cv f v z v' z') 3 ∧ emx (cv f v z v' z') 3 ≤ emx (cv f u w u' w') 3 := by
  have all : ∀ n, n ≤ 3 → emn (cv f u w u' w') 3 ≤ cv f v z v' z' n ∧ cv f v z v' z' n ≤ emx (cv f u w u' w') 3 := fun n hn => by
    unfold cv
    refine hbox _ _ ?_ ?_ ?_ ?_ <;> split <;> grind
  obtain ⟨_, i, hi, ei⟩ := emn_is (cv f v z v' z') 3
  obtain ⟨_, j, hj, ej⟩ := emx_is (cv f v z v' z') 3
  rw [ei, ej]
  exact ⟨(all i hi).1, (all j hj).2⟩
section
variable {R N : List BR}
abbrev r0 (R : List BR) (i : Nat) : Bd := (R.getD i (bd0, true)).1
theorem nar89 {op : Int → Int → Int → Int → FE} {f : Rat → Rat → Rat} {x y p q : Bd} {u w u' w' v z v' z' : Rat} (hx : In x u w) (hy : In y u' w') (hp : In p v z) (hq : In q v' z') (h1 : u ≤ v) (h2 : z ≤ w) (h3 : u' ≤ v') (h4 : z' ≤ w')
    (hop : ∀ p q a b, Is p a → Is q b → u' ≤ b → b ≤ w' → (op p.1 p.2 q.1 q.2).2.2 = 0 → Is ((op p.1 p.2 q.1 q.2).1, (op p.1 p.2 q.1 q.2).2.1) (f a b))
    (hbox : ∀ a b, u ≤ a → a ≤ w → u' ≤ b → b ≤ w' → emn (cv f u w u' w') 3 ≤ f a b ∧ f a b ≤ emx (cv f u w u' w') 3)
    (b1 : cnBad op x y = false) (b2 : cnBad op p q = false) : Inn (cnB op x y) (cnB op p q) := by
  have ly := hy.le
  have lq := hq.le
  have V1 := cnR_is hx hy (fun p q a b i1 i2 hb h => hop p q a b i1 i2 (by rcases hb with rfl | rfl <;> grind) (by rcases hb with rfl | rfl <;> grind) h) b1
  have V2 := cnR_is hp hq (fun p q a b i1 i2 hb h => hop p q a b i1 i2 (by rcases hb with rfl | rfl <;> grind) (by rcases hb with rfl | rfl <;> grind) h) b2
  obtain ⟨c1, c2⟩ := cor_in hp.le lq h1 h2 h3 h4 hbox
  exact ⟨_, _, _, _, cn_in V1 b1, cn_in V2 b2, c1, c2⟩
theorem nar_C {k : Int} (hk : 5 ≤ k ∧ k ≤ 11) (h1 : k = 5 → 1 ≤ R.length) (h2 : k = 6 ∨ k = 7 ∨ k = 8 ∨ k = 9 → 2 ≤ R.length) (h3 : k = 10 ∨ k = 11 → 1 ≤ R.length) (hl : N.length = R.length)
    (h : ∀ n, n < R.length → Inn (r0 R n) (r0 N n)) (g1 : (bnC k R).2 = true) (g2 : (bnC k N).2 = true) : Inn (bnC k R).1 (bnC k N).1 := by
  have hc : k = 5 ∨ k = 6 ∨ k = 7 ∨ k = 8 ∨ k = 9 ∨ (k = 10 ∨ k = 11) := by omega
  rcases hc with rfl | rfl | rfl | rfl | rfl | hk
  · obtain ⟨u, w, v, z, p1, p2, p3, p4⟩ := h 0 (by have := h1 rfl; omega)
    rw [bnC_5 rfl] at g1 g2 ⊢
    rw [bnC_5 rfl]
    have e : ∀ a b u w : Rat, emn (cv (· - ·) 0 0 u w) 3 = emn (cv (· - ·) 0 0 u w) 3 := fun _ _ _ _ => rfl
    refine nar89 (f := (· - ·)) (u := 0) (w := 0) (v := 0) (z := 0) zero_in p1 zero_in p2 Rat.le_refl Rat.le_refl p3 p4 (fun p q a b i1 i2 _ _ hh => sub_is i1 i2 hh) (fun a b ha hb hc hd => ?_) (by simpa using g1) (by simpa using g2)
    have lo := (emn_is (cv (· - ·) 0 0 u w) 3).1
    have hi := (emx_is (cv (· - ·) 0 0 u w) 3).1
    have l1 := lo 1 (by omega)
    have l2 := hi 0 (by omega)
    have c0 : cv (· - ·) 0 0 u w 0 = 0 - u := rfl
    have c1 : cv (· - ·) 0 0 u w 1 = 0 - w := rfl
    rw [c1] at l1
    rw [c0] at l2
    constructor <;> grind
  · have hl2 := h2 (.inl rfl)
    obtain ⟨u, w, v, z, p1, p2, p3, p4⟩ := h 0 (by omega)
    obtain ⟨u', w', v', z', q1, q2, q3, q4⟩ := h 1 (by omega)
    rw [bnC_6 rfl] at g1 g2 ⊢
    rw [bnC_6 rfl]
    unfold betO at g1 g2
    simp only [Bool.and_eq_true, beq_iff_eq] at g1 g2
    have l1 := p1.le; have l2 := p2.le; have l3 := q1.le; have l4 := q2.le
    exact ⟨u + u', w + w', v + v', z + z', ⟨add_is p1.lo q1.lo g1.1, add_is p1.hi q1.hi g1.2, by grind⟩, ⟨add_is p2.lo q2.lo g2.1, add_is p2.hi q2.hi g2.2, by grind⟩, by grind, by grind⟩
  · have hl2 := h2 (.inr (.inl rfl))
    obtain ⟨u, w, v, z, p1, p2, p3, p4⟩ := h 0 (by omega)
    obtain ⟨u', w', v', z', q1, q2, q3, q4⟩ := h 1 (by omega)
    rw [bnC_7 rfl] at g1 g2 ⊢
    rw [bnC_7 rfl]
    unfold betO at g1 g2
    simp only [Bool.and_eq_true, beq_iff_eq] at g1 g2
    have l1 := p1.le; have l2 := p2.le; have l3 := q1.le; have l4 := q2.le
    exact ⟨u - w', w - u', v - z', z - v', ⟨sub_is p1.lo q1.hi g1.1, sub_is p1.hi q1.lo g1.2, by grind⟩, ⟨sub_is p2.lo q2.hi g2.1, sub_is p2.hi q2.lo g2.2, by grind⟩, by grind, by grind⟩
  · have hl2 := h2 (.inr (.inr (.inl rfl)))
    obtain ⟨u, w, v, z, p1, p2, p3, p4⟩ := h 0 (by omega)
    obtain ⟨u', w', v', z', q1, q2, q3, q4⟩ := h 1 (by omega)
    rw [bnC_8 rfl] at g1 g2 ⊢
    rw [bnC_8 rfl]
    exact nar89 (f := (· * ·)) p1 q1 p2 q2 p3 p4 q3 q4 (fun p q a b i1 i2 _ _ hh => mul_is i1 i2 hh) (fun a b ha hb hc hd => mul_box ha hb hc hd) (by simpa using g1) (by simpa using g2)
  · have hl2 := h2 (.inr (.inr (.inr rfl)))
    obtain ⟨u, w, v, z, p1, p2, p3, p4⟩ := h 0 (by omega)
    obtain ⟨u', w', v', z', q1, q2, q3, q4⟩ := h 1 (by omega)
    rw [bnC_9 rfl] at g1 g2 ⊢
    rw [bnC_9 rfl]
    split at g1
    · cases g1
    rename_i s1
    split at g2
    · cases g2
    rename_i s2
    rw [if_neg s1, if_neg s2]
    have h0 : 0 < u' ∨ w' < 0 := by
      unfold sgnI at s1
      split at s1
      · rename_i hs; exact .inl ((is_pos q1.lo).1.1 hs)
      · split at s1
        · rename_i hs; exact .inr ((is_pos q1.hi).2.1.1 hs)
        · omega
    exact nar89 (f := (· / ·)) p1 q1 p2 q2 p3 p4 q3 q4 (fun p q a b i1 i2 hb1 hb2 hh => div_is i1 i2 (by rcases h0 with h0 | h0 <;> grind) hh) (fun a b ha hb hc hd => div_box h0 ha hb hc hd) (by simpa using g1) (by simpa using g2)
  · rw [bnC_z hk, bnC_z hk]
    have h0 : 0 < R.length := by have := h3 hk; omega
    have hch : ∀ n, ∃ p : Rat × Rat × Rat × Rat, n < R.length → In (r0 R n) p.1 p.2.1 ∧ In (r0 N n) p.2.2.1 p.2.2.2 ∧ p.1 ≤ p.2.2.1 ∧ p.2.2.2 ≤ p.2.1 := fun n => by
      by_cases hn : n < R.length
      · obtain ⟨u, w, v, z, a1, a2, a3, a4⟩ := h n hn
        exact ⟨(u, w, v, z), fun _ => ⟨a1, a2, a3, a4⟩⟩
      · exact ⟨(0, 0, 0, 0), fun hh => absurd hh hn⟩
    obtain ⟨P, hP⟩ := Classical.axiomOfChoice hch
    obtain ⟨M, hM⟩ : ∃ M, R.length = M + 1 := ⟨R.length - 1, by omega⟩
    have f1 := fold_is (R := R) (mxB := decide (k = 11)) (Vl := fun n => (P n).1) (Vh := fun n => (P n).2.1) (fun n hn => ⟨(hP n hn).1.lo, (hP n hn).1.hi⟩) h0 (M + 1) (by omega)
    have f2 := fold_is (R := N) (mxB := decide (k = 11)) (Vl := fun n => (P n).2.2.1) (Vh := fun n => (P n).2.2.2) (fun n hn => ⟨(hP n (by omega)).2.1.lo, (hP n (by omega)).2.1.hi⟩) (by omega) (M + 1) (by omega)
    have mnle : ∀ A B : Nat → Rat, (∀ n, n ≤ M → A n ≤ B n) → emn A M ≤ emn B M := fun A B hh => by
      obtain ⟨_, j, hj, ej⟩ := emn_is B M
      rw [ej]; exact Rat.le_trans ((emn_is A M).1 j hj) (hh j hj)
    have mxle : ∀ A B : Nat → Rat, (∀ n, n ≤ M → A n ≤ B n) → emx A M ≤ emx B M := fun A B hh => by
      obtain ⟨_, j, hj, ej⟩ := emx_is A M
      rw [ej]; exact Rat.le_trans (hh j hj) ((emx_is B M).1 j hj)
    rw [hM, hl.trans hM]
    simp only [fmn_emn, fmx_emx] at f1 f2
    rcases hk with rfl | rfl
    · rw [if_neg (by decide), if_neg (by decide)] at f1 f2
      exact ⟨_, _, _, _, ⟨f1.1, f1.2, mnle _ _ fun n hn => (hP n (by omega)).1.le⟩, ⟨f2.1, f2.2, mnle _ _ fun n hn => (hP n (by omega)).2.1.le⟩, mnle _ _ fun n hn => (hP n (by omega)).2.2.1, mnle _ _ fun n hn => (hP n (by omega)).2.2.2⟩
    · rw [if_pos (by decide), if_pos (by decide)] at f1 f2
      exact ⟨_, _, _, _, ⟨f1.1, f1.2, mxle _ _ fun n hn => (hP n (by omega)).1.le⟩, ⟨f2.1, f2.2, mxle _ _ fun n hn => (hP n (by omega)).2.1.le⟩, mxle _ _ fun n hn => (hP n (by omega)).2.2.1, mxle _ _ fun n hn => (hP n (by omega)).2.2.2⟩
end
end Go.Proofs
/- Narrower descriptions. -/
set_option autoImplicit false
namespace Go.Proofs
open Go Go.Ab Go.RowKit
set_option maxHeartbeats 1000000
structure Nrw (f g : Fc) : Prop where
  nm : g.name = f.name
  kd : g.kind = f.kind
  box : ∀ u w v z, Is (f.ln, f.ld) u → Is (f.hn, f.hd) w → Is (g.ln, g.ld) v → Is (g.hn, g.hd) z → u ≤ v ∧ z ≤ w
theorem nar_E {L N : List Fc} (hL : VF L) (hN : VF N) (hl : N.length = L.length) (hn : ∀ i, i < L.length → Nrw (L.getD i fc0) (N.getD i fc0)) (n : Nat) :
    ∀ x : Ex, ht x ≤ n → sndE x = true → (tyW L x).2.2 = 0 → (tyW L x).1 = 0 → (bnE (revF L L.length) x).2 = true → (bnE (revF N N.length) x).2 = true → Inn (bnE (revF L L.length) x).1 (bnE (revF N N.length) x).1 := by
  induction n using Nat.strongRecOn with
  | _ n ih =>
  intro x hx hsn hty hty0 g1 g2
  have hnum := num_of _ _ (Nat.le_refl _) hsn hty hty0
  have hkn := numE_k hnum
  rw [bnE_eq] at g1 g2 ⊢
  rw [bnE_eq]
  by_cases k1 : x.k = 1
  · rw [if_pos k1, if_pos k1]
    have hok := num_ok (snd_num hsn k1)
    exact ⟨qv x.n x.d, qv x.n x.d, qv x.n x.d, qv x.n x.d, ⟨⟨hok, rfl⟩, ⟨hok, rfl⟩, Rat.le_refl⟩, ⟨⟨hok, rfl⟩, ⟨hok, rfl⟩, Rat.le_refl⟩, Rat.le_refl, Rat.le_refl⟩
  rw [if_neg k1] at g1 g2 ⊢
  rw [if_neg k1]
  by_cases k2 : x.k = 2
  · rw [if_pos k2, if_pos k2]
    obtain ⟨n1, n2⟩ := (ty_node hsn hty).2.2 k2
    have h0 : (tyE (revF L L.length) (revW L L.length) x).1 = 0 := hty0
    rw [h0] at n1
    have hH : fH (revF L L.length) (.string x.s) = true := by
      cases hc : fH (revF L L.length) (.string x.s) with
      | true => rfl
      | false =>
        exfalso
        unfold nmK at n1 n2
        rw [if_neg (by rw [hc]; decide)] at n1 n2
        split at n1
        · simp at n1
        · rename_i hw
          rw [if_neg hw] at n2
          simp at n2
    have hk0 : (fM (revF L L.length) (.string x.s)).kind = 0 := by
      unfold nmK at n1
      rw [if_pos hH] at n1
      exact n1.symm
    obtain ⟨f, hf, e⟩ := fH_iff.1 hH
    rw [← e, fM_mem hL hf] at hk0
    rw [← e, fM_mem hL hf]
    obtain ⟨i, hi, rfl⟩ := List.getElem_of_mem hf
    have e1 : L.getD i fc0 = L[i] := by rw [List.getD, List.getElem?_eq_getElem hi]; rfl
    have hr := hn i hi
    rw [e1] at hr
    have hg : N.getD i fc0 ∈ N := getD_mem (by omega)
    generalize L[i] = f at *
    generalize N.getD i fc0 = g at *
    rw [← hr.nm, fM_mem hN hg]
    have inb : ∀ q : Fc, dscB q = true → q.kind = 0 → ∃ u w, In ⟨q.ln, q.ld, q.hn, q.hd⟩ u w := fun q hq hk => by
      rcases dsc_kind hq with hd | hd | hd
      · have ho := hd.2.1
        unfold ok2 at ho
        simp only [Bool.and_eq_true] at ho
        exact ⟨qv q.ln q.ld, qv q.hn q.hd, ⟨ho.1, rfl⟩, ⟨ho.2, rfl⟩, (cmp_is (p := (q.ln, q.ld)) (q := (q.hn, q.hd)) ⟨ho.1, rfl⟩ ⟨ho.2, rfl⟩).2.2.1 hd.2.2.1⟩
      · have := hd.1; omega
      · have := hd.1; omega
    obtain ⟨u, w, i1⟩ := inb f (hL.ds _ hf) hk0
    obtain ⟨v, z, i2⟩ := inb g (hN.ds _ hg) (by rw [hr.kd]; exact hk0)
    obtain ⟨b1, b2⟩ := hr.box u w v z i1.lo i1.hi i2.lo i2.hi
    exact ⟨u, w, v, z, i1, i2, b1, b2⟩
  rw [if_neg k2] at g1 g2 ⊢
  rw [if_neg k2]
  have hk5 : 5 ≤ x.k ∧ x.k ≤ 11 := by omega
  split at g1
  · cases g1
  rename_i a1
  split at g2
  · cases g2
  rename_i a2
  rw [if_neg a1, if_neg a2]
  have good : ∀ l : List Fc, ¬ (bnL l x.kids).any (fun r => !r.2) = true → ∀ i, i < x.kids.length → (bnE l (x.kids.getD i ex0)).2 = true := fun l ha i hi => by
    rw [List.any_eq_true] at ha
    cases hb : (bnE l (x.kids.getD i ex0)).2 with
    | true => rfl
    | false => exact absurd ⟨_, by rw [bnL_map]; exact List.mem_map.2 ⟨_, kid_mem hi, rfl⟩, by rw [hb]; rfl⟩ ha
  have hRl : ∀ l : List Fc, (bnL l x.kids).length = x.kids.length := fun l => by rw [bnL_map, List.length_map]
  have hone := @snd_one x hsn
  have htwo := @snd_two x hsn
  have hmany := @snd_many x hsn
  refine nar_C hk5 (fun h => ?_) (fun h => ?_) (fun h => ?_) (by rw [hRl, hRl]) (fun i hi => ?_) g1 g2
  · rw [hRl]; have := hone (.inl h); omega
  · rw [hRl]; have := (htwo (by omega)).1; omega
  · rw [hRl]; exact hmany h
  · rw [hRl] at hi
    unfold r0
    rw [bnL_get hi, bnL_get hi]
    have := ht_kid hi
    exact ih (n - 1) (by omega) _ (by omega) (snd_kid hsn hi) ((tyE_fine hty).1 i hi) ((ty_kids hty).1 (.inl hk5) i hi) (good _ a1 i hi) (good _ a2 i hi)
/-! The descriptions that the law makes. -/
def lowF (f : Fc) (p : Fr2) : Fc := if (ok2 f.ln f.ld p.1 p.2 && decide (cmpF f.ln f.ld p.1 p.2 ≤ 0)) = true then { f with ln := p.1, ld := p.2 } else f
def highF (f : Fc) (p : Fr2) : Fc := if (ok2 p.1 p.2 f.hn f.hd && decide (cmpF p.1 p.2 f.hn f.hd ≤ 0)) = true then { f with hn := p.1, hd := p.2 } else f
def nwF (lo hi : List Fr2) (f : Fc) (i : Nat) : Fc := if f.kind ≠ 0 ∨ lo.length ≤ i ∨ hi.length ≤ i then f else highF (lowF f (lo.getD i (0, 0))) (hi.getD i (0, 0))
def nwL (lo hi : List Fr2) (L : List Fc) : List Fc := (List.range L.length).map fun i => nwF lo hi (L.getD i fc0) i
theorem nwL_len (lo hi : List Fr2) (L : List Fc) : (nwL lo hi L).length = L.length := by unfold nwL; simp
theorem nwL_get (lo hi : List Fr2) (L : List Fc) {i : Nat} (h : i < L.length) : (nwL lo hi L).getD i fc0 = nwF lo hi (L.getD i fc0) i := by
  unfold nwL
  rw [List.getD, List.getElem?_map, List.getElem?_range h]; rfl
theorem low_keep (f : Fc) (p : Fr2) : (lowF f p).name = f.name ∧ (lowF f p).kind = f.kind ∧ (lowF f p).words = f.words ∧ (lowF f p).hn = f.hn ∧ (lowF f p).hd = f.hd := by
  unfold lowF; split <;> exact ⟨rfl, rfl, rfl, rfl, rfl⟩
theorem high_keep (f : Fc) (p : Fr2) : (highF f p).name = f.name ∧ (highF f p).kind = f.kind ∧ (highF f p).words = f.words ∧ (highF f p).ln = f.ln ∧ (highF f p).ld = f.ld := by
  unfold highF; split <;> exact ⟨rfl, rfl, rfl, rfl, rfl⟩
theorem is_val {p : Fr2} {u v : Rat} (h : Is p u) (k : Is p v) : u = v := h.2.symm.trans k.2
theorem nw_nrw (lo hi : List Fr2) (f : Fc) (i : Nat) : Nrw f (nwF lo hi f i) := by
  unfold nwF
  split
  · exact ⟨rfl, rfl, fun u w v z a b c d => by rw [is_val a c, is_val b d]; exact ⟨Rat.le_refl, Rat.le_refl⟩⟩
  · generalize lo.getD i (0, 0) = p
    generalize hi.getD i (0, 0) = q
    obtain ⟨a1, a2, a3, a4, a5⟩ := low_keep f p
    obtain ⟨b1, b2, b3, b4, b5⟩ := high_keep (lowF f p) q
    refine ⟨b1.trans a1, b2.trans a2, fun u w v z h1 h2 h3 h4 => ⟨?_, ?_⟩⟩
    · rw [b4, b5] at h3
      unfold lowF at h3
      split at h3
      · rename_i hc
        simp only [Bool.and_eq_true, decide_eq_true_eq] at hc
        exact (cmp_is (p := (f.ln, f.ld)) (q := p) h1 h3).2.2.1 hc.2
      · rw [is_val h1 h3]; exact Rat.le_refl
    · unfold highF at h4
      split at h4
      · rename_i hc
        simp only [Bool.and_eq_true, decide_eq_true_eq, a4, a5] at hc
        exact (cmp_is (p := q) (q := (f.hn, f.hd)) h4 h2).2.2.1 hc.2
      · rw [a4, a5] at h4
        rw [is_val h2 h4]; exact Rat.le_refl
theorem nar_law {L : List Fc} {lo hi : List Fr2} {x : Ex} (h1 : (bdsR L x).2 = true) (h2 : (bdsR (nwL lo hi L) x).2 = true) : Inn (bdsR L x).1 (bdsR (nwL lo hi L) x).1 := by
  have op : ∀ M : List Fc, (bdsR M x).2 = true → (typR M x).2.2 = 0 ∧ (typR M x).1 = 0 ∧ (bnE (revF M M.length) x).2 = true ∧ bdsR M x = bnE (revF M M.length) x := fun M h => by
    unfold bdsR at h ⊢
    split at h
    · cases h
    rename_i hc
    split at h
    · rename_i hb
      rw [if_neg hc, if_pos hb]
      simp only [Bool.or_eq_true, bne_iff_ne, ne_eq, not_or, Decidable.not_not] at hc
      exact ⟨hc.1, hc.2, hb, rfl⟩
    · cases h
  obtain ⟨p1, p2, p3, p4⟩ := op _ h1
  obtain ⟨q1, q2, q3, q4⟩ := op _ h2
  obtain ⟨hv, hfit, hsn, hty, e⟩ := typ_ok p1
  obtain ⟨hv', _, _, hty', _⟩ := typ_ok q1
  rw [p4, q4]
  refine nar_E (vf_of hv) (vf_of hv') (nwL_len ..) (fun i hi => ?_) _ x (Nat.le_refl _) hsn hty (by rw [e] at p2; exact p2) p3 q3
  rw [nwL_get _ _ _ hi]
  exact nw_nrw ..
theorem inn_cmp {b c : Bd} (h : Inn b c) : ok2 b.a b.b c.a c.b = true ∧ ok2 c.c c.d b.c b.d = true ∧ ok2 c.a c.b c.c c.d = true ∧ cmpF b.a b.b c.a c.b ≤ 0 ∧ cmpF c.c c.d b.c b.d ≤ 0 ∧ cmpF c.a c.b c.c c.d ≤ 0 := by
  obtain ⟨u, w, v, z, h1, h2, h3, h4⟩ := h
  unfold ok2
  refine ⟨by rw [h1.lo.1, h2.lo.1]; rfl, by rw [h2.hi.1, h1.hi.1]; rfl, by rw [h2.lo.1, h2.hi.1]; rfl, (cmp_is h1.lo h2.lo).2.2.2 h3, (cmp_is h2.hi h1.hi).2.2.2 h4, (cmp_is h2.lo h2.hi).2.2.2 h2.le⟩
end Go.Proofs
set_option autoImplicit false
namespace Go.Proofs
open Go Go.Ab Go.RowKit
set_option maxHeartbeats 4000000
set_option maxRecDepth 100000
variable {G : IH}
/-! RubricOccurring. -/
def rdF1 (d : DV) : Fc := match d with
  | .agg [.con (.string s), .con (.int _ a), .con (.int _ b), .con (.int _ c), .con (.int _ d), .con (.int _ e), w] => ⟨s, a, b, c, d, e, rdW w⟩
  | _ => fc0
def rdFs (d : DV) : List Fc := match d with | .slc _ n f => (List.range n).map fun i => rdF1 (f i) | _ => []
theorem rdFs_eq (l : List Fc) : rdFs (fcsD l) = l := by
  unfold rdFs
  refine List.ext_getElem (by simp) fun i h1 h2 => ?_
  rw [List.getElem_map, List.getElem_range]
  unfold fcF
  rw [List.getD, List.getElem?_eq_getElem h2]
  show Fc.mk _ _ _ _ _ _ (rdW (wdD _)) = _
  rw [rdW_eq]; rfl
abbrev fcK : RK := ⟨true, 44, false, none⟩
end Go.Proofs
set_option autoImplicit false
namespace Go.Proofs
open Go Go.Ab Go.RowKit
set_option maxHeartbeats 4000000
set_option maxRecDepth 100000
variable {G : IH}
/-! RubricNarrower. -/
theorem FnM.res {f : FuncId} {args : List AV} {pre post post' : List (Nat × List AV)} {r r' : AV} (hle : AS.leX ⟨[r], post⟩ ⟨[r'], post'⟩) (h : FnM Tryz.prog G f args pre r post) : FnM Tryz.prog G f args pre r' post' :=
  ⟨h.1, fun F w h0 β us g => (h.2 F w h0 β us g).mono fun e w' ⟨v, β', h', e1, g1⟩ =>
    let ⟨β2, g2⟩ := hle G F w h0 β' h' #[v] w' g1
    ⟨v, β2, h', e1, g2⟩⟩
theorem FnM.con0 {f : FuncId} {x : DV} {rest : List AV} {pre post : List (Nat × List AV)} {r : AV} (hcall : ∀ (us : Array Value) (w : World), (callFunc f us).run Tryz.prog w = .ok (.enter f us) w) (h : ∀ k v, DV.rel k x v → FnM Tryz.prog G f (.d (.con v) :: rest) pre r post) : FnM Tryz.prog G f (.d x :: rest) pre r post :=
  ⟨hcall, fun F w h0 β us g => by
    obtain ⟨v, hv, hr⟩ := g.regs 0 (.d x) rfl
    exact (h h0 v hr).2 F w h0 β us ⟨g.glob, g.holds, g.ext, g.old, g.kept, g.fix, by simpa using g.size, fun j z hz => by
      cases j with
      | zero =>
        simp only [List.getElem?_cons_zero, Option.some.injEq] at hz
        subst hz
        exact ⟨v, hv, rfl⟩
      | succ j => exact g.regs (j + 1) z (by simpa using hz), g.box, g.inj⟩⟩
def undF : Nat → DV := fun i => bif Nat.blt i 0 then DV.con undef else DV.con undef
theorem f18z : FnM Tryz.prog G 18 [.d (fcsD [])] [] (.vec 900 7 0 0) [(900, [.arr fcK 7 undF])] := by
  refine FnM.con0 Tryz.call18 fun k v hv => ?_
  obtain ⟨p, cap, rfl, hc, _⟩ := hv
  cases p with
  | none =>
    refine FnM.res (.nilRow _ 0 900 7 fcK _ (by kernel_rfl) (by kernel_rfl)) (r := .d (.con (.slice none 0 0))) (post := []) ?_
    refine FnM.walk (orc := noO) (keep := []) [] follows (by kernel_rfl) Tryz.func18 rfl Tryz.call18 ?_
    refine of_tr (fun _ _ _ _ => (((true = true) → ((ZS ((.d (.con (.slice none 0 0))) : AV)) ∧ True)) ∧ ((true = false) → ((((0 + 0) * 80 ≤ 1099511627776) ∧ (0 + 0 ≤ 1099511627776)) ∧ ((.vec 7 7 0 0) : AV) = (.d (.con (.slice none 0 0))) ∧ True)))) (by kernel_rfl) ?_
    exact ⟨fun _ => ⟨rfl, trivial⟩, fun h => by cases h⟩
  | some a =>
    refine FnM.walk (orc := noO) (keep := []) [(7, 900)] follows (by kernel_rfl) Tryz.func18 rfl Tryz.call18 ?_
    refine of_tr (fun _ _ _ _ => (((false = true) → (((.d (.con (.slice none 0 0))) : AV) = (.vec 900 7 0 0) ∧ (none : (Option (List AV))) = (some [(.arr ⟨true, 44, false, none⟩ 7 undF)]) ∧ True)) ∧ ((false = false) → ((((0 + 0) * 80 ≤ 1099511627776) ∧ (0 + 0 ≤ 1099511627776)) ∧ (ZS ((.vec 900 7 0 0) : AV)) ∧ ((some [(.arr ⟨true, 44, false, none⟩ 7 (fun i => bif i.blt 0 then DV.con undef else DV.con undef))]) : (Option (List AV))) = (some [(.arr ⟨true, 44, false, none⟩ 7 undF)]) ∧ True)))) (by kernel_rfl) ?_
    exact ⟨fun h => (by cases h), fun _ => ⟨⟨by omega, by omega⟩, rfl, rfl, trivial⟩⟩
theorem f18 (L : List Fc) (h0 : 0 < L.length) (hL : L.length ≤ 100000) : FnM Tryz.prog G 18 [.d (fcsD L)] [] (.vec 900 7 0 L.length) [(900, [.arr fcK 7 (fcF L)])] := by
  refine FnM.walk (orc := noO) (keep := []) [(7, 900)] follows (by kernel_rfl) Tryz.func18 rfl Tryz.call18 ?_
  refine of_tr (fun _ _ _ _ => ((0 < L.length) ∧ ((false = true) → (((.d (.con (.slice none 0 0))) : AV) = (.vec 900 7 0 L.length) ∧ (none : (Option (List AV))) = (some [(.arr ⟨true, 44, false, none⟩ 7 (fcF L))]) ∧ True)) ∧ ((false = false) → (((((0 + L.length) * 80 ≤ 1099511627776) ∧ (0 + L.length ≤ 1099511627776)) ∧ (∀ (i : Nat), i < L.length → elemOK true 7 (fcF L i) = true)) ∧ ((.vec 900 7 0 (0 + L.length)) : AV) = (.vec 900 7 0 L.length) ∧ ((some [(.arr ⟨true, 44, false, none⟩ 7 (fun i => bif i.blt 0 then DV.con undef else fcF L (i - 0)))]) : (Option (List AV))) = (some [(.arr ⟨true, 44, false, none⟩ 7 (fcF L))]) ∧ True)))) (by kernel_rfl) ?_
  exact ⟨h0, fun h => (by cases h), fun _ => ⟨⟨⟨by omega, by omega⟩, fun i _ => rfl⟩, by rw [Nat.zero_add], rfl, trivial⟩⟩
def pkN (lo hi : List Fr2) (L : List Fc) (k i : Nat) : Fc := if i < k then nwF lo hi (L.getD i fc0) i else L.getD i fc0
def rowNw (lo hi : List Fr2) (L : List Fc) (k i : Nat) : DV := fcD (pkN lo hi L k i)
noncomputable def orc4 (x : Ex) : Oracle := fun f a => match f, a with
  | 10, [] => some (db true)
  | 11, [_, w] => some (db (fewX x (rdFs w)))
  | 16, [_, w] => some (.tup [fr (bdsR (rdFs w) x).1.a (bdsR (rdFs w) x).1.b, fr (bdsR (rdFs w) x).1.c (bdsR (rdFs w) x).1.d, db (bdsR (rdFs w) x).2])
  | 19, [fr a b, fr c d] => some (.tup [di (cmpO a b c d), db (ok2O a b c d)])
  | _, _ => none
def orc4m (n : Nat) (r : Nat → DV) (f : FuncId) (a : List AV) (pre : List (Nat × List AV)) : Option (AV × List (Nat × List AV)) := match f with
  | 18 => some (.vec 900 7 0 n, [(900, [.arr fcK 7 r])])
  | _ => none
noncomputable def S4 (lo hi : List Fr2) (L : List Fc) (r : Nat → Nat → DV) (m : Nat) (x : Ex) (k : Nat) : AS := ⟨regs Tryz.f4.ntmps [(1, .d (fcsD L)), (2, .d (fr2D lo)), (3, .d (fr2D hi)), (4, .box 4 0), (9, .vec 900 7 0 L.length), (37, vi L.length), (38, vi k)], [(4, exC m x), (900, [.arr fcK 7 (r k)])]⟩
def pk2 (lo hi : List Fr2) (L : List Fc) (k : Nat) (q : Fc) (i : Nat) : Fc := if i = k then q else pkN lo hi L k i
def rowMd (lo hi : List Fr2) (L : List Fc) (k : Nat) (q : Fc) (i : Nat) : DV := fcD (pk2 lo hi L k q i)
noncomputable def S4m (lo hi : List Fr2) (L : List Fc) (m : Nat) (x : Ex) (k : Nat) (q : Fc) : AS := ⟨regs Tryz.f4.ntmps [(1, .d (fcsD L)), (2, .d (fr2D lo)), (3, .d (fr2D hi)), (4, .box 4 0), (9, .vec 900 7 0 L.length), (10, vi k), (11, .elem 900 7 (0 + k) 0), (37, vi L.length), (38, vi k)], [(4, exC m x), (900, [.arr fcK 7 (rowMd lo hi L k q)])]⟩
theorem pk2_other {lo hi : List Fr2} {L : List Fc} {k j : Nat} {q : Fc} (h : j ≠ k) : pk2 lo hi L k q j = pkN lo hi L k j := by unfold pk2; rw [if_neg h]
theorem pkN_other {lo hi : List Fr2} {L : List Fc} {k j : Nat} (h : j ≠ k) : pkN lo hi L (k + 1) j = pkN lo hi L k j := by
  unfold pkN
  by_cases hj : j < k
  · rw [if_pos hj, if_pos (by omega)]
  · rw [if_neg hj, if_neg (by omega)]
theorem pkN_next {lo hi : List Fr2} {L : List Fc} {k : Nat} : pkN lo hi L (k + 1) k = nwF lo hi (L.getD k fc0) k := by unfold pkN; rw [if_pos (by omega)]
theorem highF_pos {q : Fc} {p : Fr2} (h : (ok2O p.1 p.2 q.hn q.hd && decide (cmpO p.1 p.2 q.hn q.hd ≤ 0)) = true) : highF q p = ⟨q.name, q.kind, q.ln, q.ld, p.1, p.2, q.words⟩ := if_pos h
theorem lowF_pos {q : Fc} {p : Fr2} (h : (ok2O q.ln q.ld p.1 p.2 && decide (cmpO q.ln q.ld p.1 p.2 ≤ 0)) = true) : lowF q p = ⟨q.name, q.kind, p.1, p.2, q.hn, q.hd, q.words⟩ := if_pos h
theorem row_at {k : Nat} {r r' : Nat → DV} {d : DV} (h1 : d = r' k) (h2 : ∀ j, j ≠ k → r j = r' j) : (fun j => bif Nat.beq j (0 + k) then d else r j) = r' := by
  funext j
  rw [Nat.zero_add]
  cases hj : Nat.beq j k with
  | true => rw [Nat.beq_eq] at hj; subst hj; exact h1
  | false => exact h2 j fun e => by subst e; rw [Nat.beq_refl] at hj; cases hj
theorem f4m (hT : Tab G) (m : Nat) (x : Ex) (L : List Fc) (lo hi : List Fr2) (r : Nat → Nat → DV) (hr : 0 < L.length → r = rowNw lo hi L) (hx : ht x ≤ m) (hs : Sm x) (hF : ∀ i, i < L.length → FcS (L.getD i fc0)) (hL16 : L.length ≤ 16) (hlo : lo.length ≤ 9223372036854775807) (hhi : hi.length ≤ 9223372036854775807) {st : AS} (hst : st.le (S4 lo hi L r m x 0)) :
    AWP Tryz.prog G [cd Tryz.f4 [1, 1, 1, 1, 0, 1, 0], .blk 0, cd Tryz.f4 [1, 1, 1, 1, 1]] st (Ret Tryz.prog Tryz.f4 (db true)) := by
  have eL := rdFs_eq L
  refine AWP.loop (c := cAt (bodyOf Tryz.f4) [1, 1, 1, 1, 0, 1, 0, 0]) (by kernel_rfl) (S4 lo hi L r m x) (fun k => k ≤ L.length) (fun k => L.length - k) 0 hst (Nat.zero_le _) ?_
  intro k hk
  by_cases hk2 : k < L.length
  · rw [hr (by omega)]
    refine walkK (orc := orc4 x) (keep := []) (cuts := [14]) (n := 1000) follows ?_
    refine of_rd (fun ZT ZW ZQ ZK ZA ZR => (fun Za Zb Zc => ((((decide ((↑k : Int) < ↑L.length)) = true) → (((0 ≤ (↑k : Int)) ∧ ((↑k : Int) < ↑L.length)) ∧ ((Zc = true) → ((I64 (↑k + 1)) ∧ (ZA (stS ZT [0, 0])))) ∧ ((Zc = false) → ((((0 ≤ (↑k : Int)) ∧ ((↑k : Int) < ↑lo.length)) ∧ ZK 19 [(.agg [(di Za.ln), (di Za.ld)]), (.agg [(di Zb.fst), (di Zb.snd)])] (.tup [(di (cmpO Za.ln Za.ld Zb.fst Zb.snd)), (db (ok2O Za.ln Za.ld Zb.fst Zb.snd))])) ∧ (((ok2O Za.ln Za.ld Zb.fst Zb.snd && decide (cmpO Za.ln Za.ld Zb.fst Zb.snd ≤ 0)) = true) → (((0 ≤ (↑k : Int)) ∧ ((↑k : Int) < ↑lo.length)) ∧ ZW [cd Tryz.f4 [1, 1, 1, 1, 0, 1, 0, 0, 1, 1, 0, 0, 1, 1, 1, 1], (.blk 1), cd Tryz.f4 [1, 1, 1, 1, 0, 1, 0, 0, 1, 1, 1]] (stS ZT [0, 1, 0]) ZR)) ∧ (((ok2O Za.ln Za.ld Zb.fst Zb.snd && decide (cmpO Za.ln Za.ld Zb.fst Zb.snd ≤ 0)) = false) → ZW [cd Tryz.f4 [1, 1, 1, 1, 0, 1, 0, 0, 1, 1, 0, 0, 1, 1, 1, 1], (.blk 1), cd Tryz.f4 [1, 1, 1, 1, 0, 1, 0, 0, 1, 1, 1]] (stS ZT [0, 1, 1]) ZR))))) ∧ (((decide ((↑k : Int) < ↑L.length)) = false) → ZW [cd Tryz.f4 [1, 1, 1, 1, 1]] (stS ZT [1]) ZQ))) (pkN lo hi L k (0 + (↑k : Int).toNat)) (lo.getD (↑k : Int).toNat (0, 0)) ((pkN lo hi L k (0 + ((↑k : Int) : Int).toNat)).kind != 0 || decide ((↑k : Int) ≥ (↑lo.length : Int)) || decide ((↑k : Int) ≥ ↑hi.length))) (by kernel_rfl) ?_
    have epk : pkN lo hi L k (0 + k) = L.getD k fc0 := by rw [Nat.zero_add]; unfold pkN; rw [if_neg (by omega)]
    simp only [Int.toNat_natCast, epk]
    have half : ∀ q : Fc, k < hi.length → nwF lo hi (L.getD k fc0) k = highF q (hi.getD k (0, 0)) → AWP Tryz.prog G [cd Tryz.f4 [1, 1, 1, 1, 0, 1, 0, 0, 1, 1, 0, 0, 1, 1, 1, 1], .blk 1, cd Tryz.f4 [1, 1, 1, 1, 0, 1, 0, 0, 1, 1, 1]] (S4m lo hi L m x k q) (RoundQ Tryz.prog G [.blk 0, cd Tryz.f4 [1, 1, 1, 1, 1]] (Ret Tryz.prog Tryz.f4 (db true)) (S4 lo hi L (rowNw lo hi L) m x) (fun k => k ≤ L.length) (fun k => L.length - k) k) := by
      intro q hh hq
      refine walkK (orc := orc4 x) (keep := []) (cuts := []) (n := 1000) follows ?_
      refine of_rd (fun ZT _ _ ZK ZA _ => (fun Za => ((((0 ≤ (↑k : Int)) ∧ ((↑k : Int) < ↑hi.length)) ∧ ZK 19 [(.agg [(di Za.fst), (di Za.snd)]), (.agg [(di (pk2 lo hi L k q (0 + k)).hn), (di (pk2 lo hi L k q (0 + k)).hd)])] (.tup [(di (cmpO Za.fst Za.snd (pk2 lo hi L k q (0 + k)).hn (pk2 lo hi L k q (0 + k)).hd)), (db (ok2O Za.fst Za.snd (pk2 lo hi L k q (0 + k)).hn (pk2 lo hi L k q (0 + k)).hd))])) ∧ (((ok2O Za.fst Za.snd (pk2 lo hi L k q (0 + k)).hn (pk2 lo hi L k q (0 + k)).hd && decide (cmpO Za.fst Za.snd (pk2 lo hi L k q (0 + k)).hn (pk2 lo hi L k q (0 + k)).hd ≤ 0)) = true) → (((0 ≤ (↑k : Int)) ∧ ((↑k : Int) < ↑hi.length)) ∧ (I64 (↑k + 1)) ∧ (ZA (stS ZT [0])))) ∧ (((ok2O Za.fst Za.snd (pk2 lo hi L k q (0 + k)).hn (pk2 lo hi L k q (0 + k)).hd && decide (cmpO Za.fst Za.snd (pk2 lo hi L k q (0 + k)).hn (pk2 lo hi L k q (0 + k)).hd ≤ 0)) = false) → ((I64 (↑k + 1)) ∧ (ZA (stS ZT [1])))))) (hi.getD (↑k : Int).toNat (0, 0))) (by kernel_rfl) ?_
      have e2 : pk2 lo hi L k q (0 + k) = q := by rw [Nat.zero_add]; unfold pk2; rw [if_pos rfl]
      simp only [Int.toNat_natCast, e2]
      refine ⟨⟨⟨by omega, by omega⟩, f19 _ _ _ _⟩, fun h3 => ⟨⟨by omega, by omega⟩, ⟨by omega, by omega⟩, Again.mk (k + 1) ?_ hk2 (by omega)⟩, fun h3 => ⟨⟨by omega, by omega⟩, Again.mk (k + 1) ?_ hk2 (by omega)⟩⟩
      · refine AS.leZ [] [1] (b := ((T0 ∧ T0 ∧ T0 ∧ T0 ∧ T0 ∧ T0 ∧ T0 ∧ True) ∧ T0 ∧ ((some [(.arr ⟨true, 44, false, none⟩ 7 (fun j => bif j.beq (0 + k) then DV.agg (List.take (0 + 4) [DV.con (Value.string (pk2 lo hi L k q (0 + k)).name), DV.con (Value.int IntKind.i64 (pk2 lo hi L k q (0 + k)).kind), DV.con (Value.int IntKind.i64 (pk2 lo hi L k q (0 + k)).ln), DV.con (Value.int IntKind.i64 (pk2 lo hi L k q (0 + k)).ld), DV.con (Value.int IntKind.i64 (pk2 lo hi L k q (0 + k)).hn), DV.con (Value.int IntKind.i64 (pk2 lo hi L k q (0 + k)).hd), wdD (pk2 lo hi L k q (0 + k)).words] ++ [DV.con (Value.int IntKind.i64 (hi.getD (↑k : Int).toNat (0, 0)).fst), DV.con (Value.int IntKind.i64 (hi.getD (↑k : Int).toNat (0, 0)).snd)] ++ List.drop (0 + 4 + 2) [DV.con (Value.string (pk2 lo hi L k q (0 + k)).name), DV.con (Value.int IntKind.i64 (pk2 lo hi L k q (0 + k)).kind), DV.con (Value.int IntKind.i64 (pk2 lo hi L k q (0 + k)).ln), DV.con (Value.int IntKind.i64 (pk2 lo hi L k q (0 + k)).ld), DV.con (Value.int IntKind.i64 (pk2 lo hi L k q (0 + k)).hn), DV.con (Value.int IntKind.i64 (pk2 lo hi L k q (0 + k)).hd), wdD (pk2 lo hi L k q (0 + k)).words]) else rowMd lo hi L k q j))]) : (Option (List AV))) = (some [(.arr ⟨true, 44, false, none⟩ 7 (rowNw lo hi L (k + 1)))]) ∧ True)) (by kernel_rfl) (by kernel_rfl) ?_
        refine ⟨⟨rfl, rfl, rfl, rfl, rfl, rfl, rfl, trivial⟩, rfl, ?_, trivial⟩
        refine congrArg (fun f => some [AV.arr fcK 7 f]) (row_at ?_ fun j hj => ?_)
        · show _ = fcD (pkN lo hi L (k + 1) k)
          rw [e2, pkN_next, hq, highF_pos h3]; rfl
        · exact congrArg fcD ((pk2_other hj).trans (pkN_other hj).symm)
      · refine AS.leZ [] [1] (b := ((T0 ∧ T0 ∧ T0 ∧ T0 ∧ T0 ∧ T0 ∧ T0 ∧ True) ∧ T0 ∧ ((some [(.arr ⟨true, 44, false, none⟩ 7 (rowMd lo hi L k q))]) : (Option (List AV))) = (some [(.arr ⟨true, 44, false, none⟩ 7 (rowNw lo hi L (k + 1)))]) ∧ True)) (by kernel_rfl) (by kernel_rfl) ?_
        refine ⟨⟨rfl, rfl, rfl, rfl, rfl, rfl, rfl, trivial⟩, rfl, ?_, trivial⟩
        refine congrArg (fun f => some [AV.arr fcK 7 f]) (funext fun j => congrArg fcD ?_)
        by_cases hj : j = k
        · subst hj
          rw [pkN_next, hq]
          unfold pk2 highF
          rw [if_pos rfl, if_neg (by rw [show (ok2 _ _ _ _ && decide (cmpF _ _ _ _ ≤ 0)) = false from h3]; decide)]
        · exact (pk2_other hj).trans (pkN_other hj).symm
    refine ⟨fun h1 => ⟨⟨by omega, by omega⟩, fun h2 => ⟨⟨by omega, by omega⟩, Again.mk (k + 1) ?_ hk2 (by omega)⟩, fun h2 => ?_⟩, fun h1 => absurd (of_decide_eq_false h1) (by omega)⟩
    · refine AS.leZ [] [1] (b := ((T0 ∧ T0 ∧ T0 ∧ T0 ∧ T0 ∧ T0 ∧ T0 ∧ True) ∧ T0 ∧ ((some [(.arr ⟨true, 44, false, none⟩ 7 (rowNw lo hi L k))]) : (Option (List AV))) = (some [(.arr ⟨true, 44, false, none⟩ 7 (rowNw lo hi L (k + 1)))]) ∧ True)) (by kernel_rfl) (by kernel_rfl) ?_
      refine ⟨⟨rfl, rfl, rfl, rfl, rfl, rfl, rfl, trivial⟩, rfl, ?_, trivial⟩
      refine congrArg (fun f => some [AV.arr fcK 7 f]) (funext fun j => congrArg fcD ?_)
      by_cases hj : j = k
      · subst hj
        rw [pkN_next, ← epk, Nat.zero_add]
        unfold nwF
        rw [if_pos]
        rw [Nat.zero_add] at epk
        rw [epk]
        simp only [Bool.or_eq_true, bne_iff_ne, ne_eq, decide_eq_true_eq] at h2
        omega
      · exact (pkN_other hj).symm
    · simp only [Bool.or_eq_false_iff, bne_eq_false_iff_eq, decide_eq_false_iff_not] at h2
      obtain ⟨⟨h2, h4⟩, h5⟩ := h2
      refine ⟨⟨⟨by omega, by omega⟩, f19 _ _ _ _⟩, fun h3 => ⟨⟨by omega, by omega⟩, AWP.weaken ?_ (half (lowF (L.getD k fc0) (lo.getD k (0, 0))) (by omega) ?_)⟩, fun h3 => AWP.weaken ?_ (half (lowF (L.getD k fc0) (lo.getD k (0, 0))) (by omega) ?_)⟩
      · refine AS.leZ [6] [1] (b := ((T0 ∧ T0 ∧ T0 ∧ T0 ∧ T0 ∧ T0 ∧ ((.elem 900 7 (0 + (↑k : Int).toNat) 0) : AV) = (.elem 900 7 (0 + k) 0) ∧ T0 ∧ T0 ∧ True) ∧ T0 ∧ ((some [(.arr ⟨true, 44, false, none⟩ 7 (fun j => bif j.beq (0 + (↑k : Int).toNat) then DV.agg (List.take (0 + 2) [DV.con (Value.string (pkN lo hi L k (0 + (↑k : Int).toNat)).name), DV.con (Value.int IntKind.i64 (pkN lo hi L k (0 + (↑k : Int).toNat)).kind), DV.con (Value.int IntKind.i64 (pkN lo hi L k (0 + (↑k : Int).toNat)).ln), DV.con (Value.int IntKind.i64 (pkN lo hi L k (0 + (↑k : Int).toNat)).ld), DV.con (Value.int IntKind.i64 (pkN lo hi L k (0 + (↑k : Int).toNat)).hn), DV.con (Value.int IntKind.i64 (pkN lo hi L k (0 + (↑k : Int).toNat)).hd), wdD (pkN lo hi L k (0 + (↑k : Int).toNat)).words] ++ [DV.con (Value.int IntKind.i64 (lo.getD (↑k : Int).toNat (0, 0)).fst), DV.con (Value.int IntKind.i64 (lo.getD (↑k : Int).toNat (0, 0)).snd)] ++ List.drop (0 + 2 + 2) [DV.con (Value.string (pkN lo hi L k (0 + (↑k : Int).toNat)).name), DV.con (Value.int IntKind.i64 (pkN lo hi L k (0 + (↑k : Int).toNat)).kind), DV.con (Value.int IntKind.i64 (pkN lo hi L k (0 + (↑k : Int).toNat)).ln), DV.con (Value.int IntKind.i64 (pkN lo hi L k (0 + (↑k : Int).toNat)).ld), DV.con (Value.int IntKind.i64 (pkN lo hi L k (0 + (↑k : Int).toNat)).hn), DV.con (Value.int IntKind.i64 (pkN lo hi L k (0 + (↑k : Int).toNat)).hd), wdD (pkN lo hi L k (0 + (↑k : Int).toNat)).words]) else rowNw lo hi L k j))]) : (Option (List AV))) = (some [(.arr ⟨true, 44, false, none⟩ 7 (rowMd lo hi L k (lowF (L.getD k fc0) (lo.getD k (0, 0)))))]) ∧ True)) (by kernel_rfl) (by kernel_rfl) ?_
        refine ⟨⟨rfl, rfl, rfl, rfl, rfl, rfl, rfl, rfl, rfl, trivial⟩, rfl, ?_, trivial⟩
        refine congrArg (fun f => some [AV.arr fcK 7 f]) (row_at ?_ fun j hj => ?_)
        · have e3 : pkN lo hi L k (0 + (k : Int).toNat) = L.getD k fc0 := epk
          show _ = fcD (pk2 lo hi L k _ k)
          unfold pk2
          rw [e3, if_pos rfl, lowF_pos h3]; rfl
        · exact congrArg fcD (pk2_other hj).symm
      · unfold nwF; rw [if_neg (by omega)]
      · refine AS.leZ [6] [1] (b := ((T0 ∧ T0 ∧ T0 ∧ T0 ∧ T0 ∧ T0 ∧ ((.elem 900 7 (0 + (↑k : Int).toNat) 0) : AV) = (.elem 900 7 (0 + k) 0) ∧ T0 ∧ T0 ∧ True) ∧ T0 ∧ ((some [(.arr ⟨true, 44, false, none⟩ 7 (rowNw lo hi L k))]) : (Option (List AV))) = (some [(.arr ⟨true, 44, false, none⟩ 7 (rowMd lo hi L k (lowF (L.getD k fc0) (lo.getD k (0, 0)))))]) ∧ True)) (by kernel_rfl) (by kernel_rfl) ?_
        refine ⟨⟨rfl, rfl, rfl, rfl, rfl, rfl, rfl, rfl, rfl, trivial⟩, rfl, ?_, trivial⟩
        refine congrArg (fun f => some [AV.arr fcK 7 f]) (funext fun j => congrArg fcD ?_)
        by_cases hj : j = k
        · subst hj
          rw [Nat.zero_add] at epk
          rw [epk]
          unfold pk2 lowF
          rw [if_pos rfl, if_neg (by rw [show (ok2 _ _ _ _ && decide (cmpF _ _ _ _ ≤ 0)) = false from h3]; decide)]
        · exact (pk2_other hj).symm
      · unfold nwF; rw [if_neg (by omega)]
  · obtain rfl : k = L.length := by omega
    refine walkK (orc := orc4 x) (keep := []) (cuts := [18, 8]) (n := 10) follows ?_
    refine of_rd (fun ZT ZW ZQ _ _ ZR => ((((decide ((↑L.length : Int) < ↑L.length)) = true) → ZW [cd Tryz.f4 [1, 1, 1, 1, 0, 1, 0, 0, 1, 1, 0, 0], (.blk 1), cd Tryz.f4 [1, 1, 1, 1, 0, 1, 0, 0, 1, 1, 1]] (stS ZT [0]) ZR) ∧ (((decide ((↑L.length : Int) < ↑L.length)) = false) → ZW [cd Tryz.f4 [1, 1, 1, 1, 1]] (stS ZT [1]) ZQ))) (by kernel_rfl) ?_
    refine ⟨fun h1 => absurd (of_decide_eq_true h1) (by omega), fun _ => ?_⟩
    obtain ⟨N, hN⟩ : ∃ N, N = nwL lo hi L := ⟨_, rfl⟩
    have eN := rdFs_eq N
    have hNl : N.length = L.length := by rw [hN, nwL_len]
    have hFN : ∀ i, i < N.length → FcS (N.getD i fc0) := fun i hi' => by
      have h := hF i (by omega)
      rw [hN, nwL_get _ _ _ (by omega)]
      have k1 : ∀ f, (nwF lo hi f i).name = f.name ∧ (nwF lo hi f i).words = f.words := fun f => by
        unfold nwF
        split
        · exact ⟨rfl, rfl⟩
        · exact ⟨(high_keep _ _).1.trans (low_keep _ _).1, (high_keep _ _).2.2.1.trans (low_keep _ _).2.2.1⟩
      exact ⟨by rw [(k1 _).1]; exact h.nm, by rw [(k1 _).2]; exact h.ln, by rw [(k1 _).2]; exact h.wd⟩
    refine AWP.freeze (agg := fcK) (sz := 7) (f := r L.length) 900 (by kernel_rfl) ?_
    refine AWP.pre (.regD _ 9 (.slc 7 L.length fun i => r L.length (0 + i)) (fcsD N) (by kernel_rfl) fun h v hv => ?_) ?_
    · show DV.rel h (.slc 7 N.length _) v
      rw [hNl]
      refine DV.rel_slc_congr (fun i hi' => ?_) hv
      rw [hr (by omega), Nat.zero_add]
      unfold rowNw fcF pkN
      rw [if_pos hi', hN, nwL_get _ _ _ hi']
    refine walkK (orc := orc4 x) (keep := []) (cuts := []) (n := 1000) follows ?_
    refine of_tr (fun _ _ _ ZK => (fun Za Zb => (ZK 16 [(ndX m x), (.slc 7 L.length (fcF L))] (.tup [(.agg [(di Zb.fst.a), (di Zb.fst.b)]), (.agg [(di Zb.fst.c), (di Zb.fst.d)]), (db Zb.snd)]) ∧ ZK 16 [(ndX m x), (.slc 7 N.length (fcF N))] (.tup [(.agg [(di Za.fst.a), (di Za.fst.b)]), (.agg [(di Za.fst.c), (di Za.fst.d)]), (db Za.snd)]) ∧ (((!Zb.snd || !Za.snd) = true) → (ZS ((db true) : DV))) ∧ (((!Zb.snd || !Za.snd) = false) → (ZK 19 [(.agg [(di Zb.fst.a), (di Zb.fst.b)]), (.agg [(di Za.fst.a), (di Za.fst.b)])] (.tup [(di (cmpO Zb.fst.a Zb.fst.b Za.fst.a Za.fst.b)), (db (ok2O Zb.fst.a Zb.fst.b Za.fst.a Za.fst.b))]) ∧ ZK 19 [(.agg [(di Za.fst.c), (di Za.fst.d)]), (.agg [(di Zb.fst.c), (di Zb.fst.d)])] (.tup [(di (cmpO Za.fst.c Za.fst.d Zb.fst.c Zb.fst.d)), (db (ok2O Za.fst.c Za.fst.d Zb.fst.c Zb.fst.d))]) ∧ ZK 19 [(.agg [(di Za.fst.a), (di Za.fst.b)]), (.agg [(di Za.fst.c), (di Za.fst.d)])] (.tup [(di (cmpO Za.fst.a Za.fst.b Za.fst.c Za.fst.d)), (db (ok2O Za.fst.a Za.fst.b Za.fst.c Za.fst.d))]) ∧ ((db (ok2O Zb.fst.a Zb.fst.b Za.fst.a Za.fst.b && ok2O Za.fst.c Za.fst.d Zb.fst.c Zb.fst.d && ok2O Za.fst.a Za.fst.b Za.fst.c Za.fst.d && decide (cmpO Zb.fst.a Zb.fst.b Za.fst.a Za.fst.b ≤ 0) && decide (cmpO Za.fst.c Za.fst.d Zb.fst.c Zb.fst.d ≤ 0) && decide (cmpO Za.fst.a Za.fst.b Za.fst.c Za.fst.d ≤ 0))) : DV) = (db true))))) (bdsR (rdFs (DV.slc 7 N.length (fcF N))) x) (bdsR (rdFs (DV.slc 7 L.length (fcF L))) x)) (by kernel_rfl) ?_
    simp only [eL, eN]
    have hlaw := fun h1 h2 => inn_cmp (nar_law (L := L) (lo := lo) (hi := hi) (x := x) h1 h2)
    rw [← hN] at hlaw
    refine ⟨f16 hT m x L hx hs hF (by omega), f16 hT m x N hx hs hFN (by omega), fun _ => trivial, fun h2 => ⟨f19 _ _ _ _, f19 _ _ _ _, f19 _ _ _ _, ?_⟩⟩
    simp only [Bool.or_eq_false_iff, Bool.not_eq_false'] at h2
    obtain ⟨a1, a2, a3, a4, a5, a6⟩ := hlaw h2.1 h2.2
    simp only [ok2O, cmpO, a1, a2, a3, a4, a5, a6, decide_true, Bool.and_self]
theorem f4 (hT : Tab G) (m : Nat) (x : Ex) (L : List Fc) (lo hi : List Fr2) (hx : ht x ≤ m) (hw : wfE x) (hl : L.length ≤ 9223372036854775807) (hlo : lo.length ≤ 9223372036854775807) (hhi : hi.length ≤ 9223372036854775807) (hw2 : ∀ i, i < L.length → FcW (L.getD i fc0)) : FnOK Tryz.prog G 4 [exD m x, fcsD L, fr2D lo, fr2D hi] (db true) := by
  have key : fewX x L = true → Sm x ∧ (∀ i, i < L.length → FcS (L.getD i fc0)) ∧ L.length ≤ 16 := fun hfx => by
    unfold fewX at hfx
    rw [Bool.and_eq_true] at hfx
    exact ⟨few_sm (by omega) hw hfx.1, fcs_of_few hfx.2⟩
  by_cases h0 : 0 < L.length
  · have eL := rdFs_eq L
    refine FnOK.walkK (orc := { d := orc4 x, m := orc4m L.length (fcF L) }) (keep := []) follows Tryz.func4 rfl Tryz.call4 ?_
    refine of_tr (fun ZT ZW ZQ ZK => (ZK 10 [] (db true) ∧ ((false = true) → (((db false) : DV) = (db true))) ∧ ((false = false) → (ZK 11 [(ndX m x), (.slc 7 L.length (fcF L))] (db (fewX x (rdFs (DV.slc 7 L.length (fcF L))))) ∧ (((!fewX x (rdFs (DV.slc 7 L.length (fcF L)))) = true) → (ZS ((db true) : DV))) ∧ (((!fewX x (rdFs (DV.slc 7 L.length (fcF L)))) = false) → (FnM Tryz.prog G 18 [(.d (.slc 7 L.length (fcF L)))] [] (.vec 900 7 0 L.length) [(900, [(.arr ⟨true, 44, false, none⟩ 7 (fcF L))])] ∧ ZW [cd Tryz.f4 [1, 1, 1, 1, 0, 1, 0], (.blk 0), cd Tryz.f4 [1, 1, 1, 1, 1]] (stS ZT [1, 1]) ZQ)))))) (by kernel_rfl) ?_
    simp only [eL]
    refine ⟨f10 hT, fun h => (by cases h), fun _ => ⟨f11 m x L hx hw hl hw2, fun _ => trivial, fun h1 => ?_⟩⟩
    obtain ⟨hs, hF, hL16⟩ := key (by simpa using h1)
    refine ⟨f18 L h0 (by omega), AWP.pre (.moves [(36900, 900)] _ rfl) (f4m hT m x L lo hi (rowNw lo hi L) (fun _ => rfl) hx hs hF hL16 hlo hhi ?_)⟩
    refine AS.leZ [] [1] (b := ((T0 ∧ T0 ∧ T0 ∧ T0 ∧ T0 ∧ T0 ∧ T0 ∧ True) ∧ T0 ∧ ((some [(.arr ⟨true, 44, false, none⟩ 7 (fcF L))]) : (Option (List AV))) = (some [(.arr ⟨true, 44, false, none⟩ 7 (rowNw lo hi L 0))]) ∧ True)) (by kernel_rfl) (by kernel_rfl) ?_
    refine ⟨⟨rfl, rfl, rfl, rfl, rfl, rfl, rfl, trivial⟩, rfl, ?_, trivial⟩
    refine congrArg (fun f => some [AV.arr fcK 7 f]) (funext fun i => ?_)
    unfold rowNw pkN fcF
    rw [if_neg (Nat.not_lt_zero _)]
  · obtain rfl : L = [] := List.eq_nil_of_length_eq_zero (by omega)
    have eL := rdFs_eq []
    refine FnOK.walkK (orc := { d := orc4 x, m := orc4m 0 undF }) (keep := []) follows Tryz.func4 rfl Tryz.call4 ?_
    refine of_tr (fun ZT ZW ZQ ZK => (ZK 10 [] (db true) ∧ ((false = true) → (((db false) : DV) = (db true))) ∧ ((false = false) → (ZK 11 [(ndX m x), (.slc 7 0 (fcF []))] (db (fewX x (rdFs (DV.slc 7 0 (fcF []))))) ∧ (((!fewX x (rdFs (DV.slc 7 0 (fcF [])))) = true) → (ZS ((db true) : DV))) ∧ (((!fewX x (rdFs (DV.slc 7 0 (fcF [])))) = false) → (FnM Tryz.prog G 18 [(.d (.slc 7 0 (fcF [])))] [] (.vec 900 7 0 0) [(900, [(.arr ⟨true, 44, false, none⟩ 7 undF)])] ∧ ZW [cd Tryz.f4 [1, 1, 1, 1, 0, 1, 0], (.blk 0), cd Tryz.f4 [1, 1, 1, 1, 1]] (stS ZT [1, 1]) ZQ)))))) (by kernel_rfl) ?_
    refine ⟨f10 hT, fun h => (by cases h), fun _ => ⟨f11 m x [] hx hw hl hw2, fun _ => rfl, fun h1 => ?_⟩⟩
    obtain ⟨hs, hF, hL16⟩ := key (by
      have h3 : (!fewX x (rdFs (fcsD []))) = false := h1
      rw [eL] at h3
      simpa using h3)
    refine ⟨f18z, AWP.pre (.moves [(36900, 900)] _ rfl) (f4m hT m x [] lo hi (fun _ => undF) (fun h => absurd h (by decide)) hx hs hF hL16 hlo hhi ?_)⟩
    exact AS.leA (by kernel_rfl)
end Go.Proofs
