import Derived.Test.YtpognhmelecaoaaGreatDoorRV
import Derived.Test.YtpognhmelecaoaaGreatDoorAcD
import Derived.Test.YtpognhmelecaoaaGreatDoorEM
set_option autoImplicit false
namespace Go.Proofs
open Go Go.Ab Go.RowKit
/-! The two ways in which rules are valid are one. -/
theorem ln_cat {R : List Rl} : ∀ (k i : Nat), i < k → (lnB (R.getD i rl0)).size ≤ (catB R k).size
  | k + 1, i, h => by
    simp only [catB, ByteArray.size_append]
    rcases Nat.lt_or_ge i k with h1 | h1
    · have := ln_cat (R := R) k i h1; omega
    · obtain rfl : i = k := by omega
      omega
theorem ln_am (r : Rl) : (fmtE r.am).size ≤ (lnB r).size := by
  unfold lnB
  simp only [ByteArray.size_append]; omega
theorem ln_wh {r : Rl} (h : r.wh.k ≠ 0) : (fmtE r.wh).size ≤ (lnB r).size := by
  unfold lnB
  rw [if_neg h]
  simp only [ByteArray.size_append]; omega
theorem ru_rf {r : Rl} (h : ruB r = true) (hz : (lnB r).size ≤ 16384) : rfB r = true := by
  have h0 := h
  have h1 := ln_am r
  unfold ruB at h
  unfold rfB fitE
  simp only [Bool.and_eq_true, Bool.or_eq_true, decide_eq_true_eq] at h ⊢
  obtain ⟨⟨⟨⟨⟨⟨q0, q4⟩, q1⟩, q2⟩, q5, q6⟩, q7⟩, q8⟩ := h
  refine ⟨⟨⟨⟨⟨q0, by omega⟩, q1⟩, q2⟩, ⟨q7, q5⟩, by omega⟩, ?_⟩
  rcases q8 with q8 | q8
  · exact .inl q8
  · refine .inr ⟨⟨q8, q6⟩, ?_⟩
    have := ln_wh (r := r) (fun hk => snd_rk q8 (by rw [hk]; rfl))
    omega
theorem vaR_S {R : List Rl} (hR : ∀ i, i < R.length → RlS (R.getD i rl0)) : vaR R = vaS R := by
  by_cases h0 : R.length = 0
  · obtain rfl := List.eq_nil_of_length_eq_zero h0
    rfl
  have hm : ∀ r ∈ R, ∃ i, i < R.length ∧ R.getD i rl0 = r := fun r hr => by
    obtain ⟨i, hi, rfl⟩ := List.getElem_of_mem hr
    exact ⟨i, hi, by rw [List.getD, List.getElem?_eq_getElem hi]; rfl⟩
  unfold vaR
  rw [decide_eq_false h0, Bool.false_or]
  unfold fmtR vaS
  by_cases h1 : R.length > 32
  · rw [if_pos h1, decide_eq_false (by omega : ¬ R.length ≤ 32)]; rfl
  rw [if_neg h1, decide_eq_true (by omega : R.length ≤ 32), Bool.true_and]
  cases h2 : R.any fun r => !ruB r with
  | true =>
    rw [if_pos rfl]
    obtain ⟨r, hr, hb⟩ := List.any_eq_true.1 h2
    have : R.all rfB = false := by
      rw [List.all_eq_false]
      refine ⟨r, hr, fun h => ?_⟩
      rw [rf_ru h] at hb; cases hb
    rw [this]; rfl
  | false =>
    rw [if_neg (by decide)]
    have hu : ∀ i, i < R.length → ruB (R.getD i rl0) = true := fun i hi => by
      have := List.any_eq_false.1 h2 _ (getD_mem' (x0 := rl0) hi)
      simpa using this
    have hp := (cat_small hR R.length (Nat.le_refl _) hu).2 (by omega)
    by_cases h3 : (catB R R.length).size > 16384
    · rw [if_pos h3, decide_eq_false (by omega : ¬ (catB R R.length).size ≤ 16384), Bool.and_false]; rfl
    · rw [if_neg h3, decide_eq_true (by omega : (catB R R.length).size ≤ 16384), Bool.and_true, decide_eq_false (by omega)]
      symm
      rw [Bool.not_false, List.all_eq_true]
      intro r hr
      obtain ⟨i, hi, rfl⟩ := hm r hr
      exact ru_rf (hu i hi) (Nat.le_trans (ln_cat _ _ hi) (by omega))
end Go.Proofs
set_option autoImplicit false
namespace Go.Proofs
open Go Go.Ab Go.RowKit
set_option maxHeartbeats 4000000
set_option maxRecDepth 100000
variable {G : IH}
/-! The reference's Check. -/
theorem vf_l {a b : Bool} (h : (!a || !b) = false) : a = true := by
  revert h; cases a <;> cases b <;> decide
end Go.Proofs
set_option autoImplicit false
namespace Go.Proofs
open Go Go.Ab Go.RowKit
set_option maxHeartbeats 4000000
set_option maxRecDepth 100000
variable {G : IH}
/-! RubricTypes. -/
structure RlW (r : Rl) : Prop where
  nm : r.nm.size ≤ maxLen
  gr : r.gr.size ≤ maxLen
  ha : ht r.am ≤ r.ma
  am : wfE r.am
  hw : ht r.wh ≤ r.mw
  wh : wfE r.wh
def fewR (r : Rl) : Bool := decide (r.nm.size ≤ 40) && decide (r.gr.size ≤ 40) && fewE 30 r.am && fewE 30 r.wh
theorem rls_few {r : Rl} (h : RlW r) (hf : fewR r = true) : RlS r := by
  unfold fewR at hf
  simp only [Bool.and_eq_true, decide_eq_true_eq] at hf
  exact ⟨by omega, by omega, h.ha, few_sm (by omega) h.am hf.1.2, h.hw, few_sm (by omega) h.wh hf.2⟩
end Go.Proofs
