import Derived.Test.YthijempdiheabaaDoorAb15
import Derived.Test.YthijempdiheabaaDoorFb
import Derived.Test.YthijempdiheabaaDoorF8
set_option autoImplicit false
namespace Go.Proofs
open Go Go.Ab
set_option maxHeartbeats 1000000
set_option maxRecDepth 100000
variable {G : IH}
theorem hun_spec {n d : Int} (hd : 0 < d) : 2 * (hun n d * d) ≤ 200 * n + d ∧ 200 * n + d < 2 * (hun n d * d) + 2 * d := by
  have h1 := Int.mul_ediv_self_le (x := 200 * n + d) (k := 2 * d) (by omega)
  have h2 := Int.lt_mul_ediv_self_add (x := 200 * n + d) (k := 2 * d) (by omega)
  have e : 2 * d * ((200 * n + d) / (2 * d)) = 2 * (hun n d * d) := by unfold hun; grind
  rw [e] at h1 h2
  exact ⟨h1, h2⟩
theorem fl_spec {n d : Int} (hd : 0 < d) : n / d * d ≤ n ∧ n < n / d * d + d := by
  have h1 := Int.mul_ediv_self_le (x := n) (k := d) (by omega)
  have h2 := Int.lt_mul_ediv_self_add (x := n) (k := d) (by omega)
  rw [Int.mul_comm] at h1 h2
  exact ⟨h1, h2⟩
theorem hun_mono {a b c d : Int} (hb : 0 < b) (hd : 0 < d) (h : a * d ≤ c * b) : hun a b ≤ hun c d := by
  obtain ⟨h1, -⟩ := hun_spec (n := a) hb
  obtain ⟨-, h2⟩ := hun_spec (n := c) hd
  rcases Int.lt_or_le (hun c d) (hun a b) with hlt | hle
  · exfalso
    have k1 := Int.mul_le_mul_of_nonneg_right h1 (Int.le_of_lt hd)
    have k2 := Int.mul_lt_mul_of_pos_right h2 hb
    have k3 : (hun c d + 1) * (b * d) ≤ hun a b * (b * d) := Int.mul_le_mul_of_nonneg_right hlt (Int.le_of_lt (Int.mul_pos hb hd))
    grind
  · exact hle
theorem fl_mono {a b c d : Int} (hb : 0 < b) (hd : 0 < d) (h : a * d ≤ c * b) : a / b ≤ c / d := by
  obtain ⟨h1, -⟩ := fl_spec (n := a) hb
  obtain ⟨-, h2⟩ := fl_spec (n := c) hd
  rcases Int.lt_or_le (c / d) (a / b) with hlt | hle
  · exfalso
    have k1 := Int.mul_le_mul_of_nonneg_right h1 (Int.le_of_lt hd)
    have k2 := Int.mul_lt_mul_of_pos_right h2 hb
    have k3 : (c / d + 1) * (b * d) ≤ a / b * (b * d) := Int.mul_le_mul_of_nonneg_right hlt (Int.le_of_lt (Int.mul_pos hb hd))
    generalize a / b = x at *
    generalize c / d = y at *
    grind
  · exact hle
theorem f5 (hT : Tab G) (a b c d : Int) : FnOK Tryd.prog G 5 [fr a b, fr c d] (db true) := by
  refine FnOK.walk (orc := orc3) (keep := []) follows Tryd.func5 rfl Tryd.call5 ?_
  refine of_eqH (b :=
    (FnOK Tryd.prog G ((10 : Nat)) [] (.con (.bool true)) ∧
    (((false = true) →
    (((.con (.bool false)) : DV) = (db true))) ∧
    ((false = false) →
    (FnOK Tryd.prog G ((25 : Nat)) [(.agg [(.con (.int .i64 a)), (.con (.int .i64 b))])] (.tup [(.con (.int .i64 (hunF a b))), (.con (.bool (ok a b)))]) ∧
    (FnOK Tryd.prog G ((25 : Nat)) [(.agg [(.con (.int .i64 c)), (.con (.int .i64 d))])] (.tup [(.con (.int .i64 (hunF c d))), (.con (.bool (ok c d)))]) ∧
    (FnOK Tryd.prog G ((26 : Nat)) [(.agg [(.con (.int .i64 a)), (.con (.int .i64 b))])] (.tup [(.con (.int .i64 (flF a b))), (.con (.bool (ok a b)))]) ∧
    (FnOK Tryd.prog G ((26 : Nat)) [(.agg [(.con (.int .i64 c)), (.con (.int .i64 d))])] (.tup [(.con (.int .i64 (flF c d))), (.con (.bool (ok c d)))]) ∧
    ((FnOK Tryd.prog G ((15 : Nat)) [(.agg [(.con (.int .i64 a)), (.con (.int .i64 b))])] (.con (.bool (ok a b))) ∧
    (((!!ok a b) = true) →
    FnOK Tryd.prog G ((15 : Nat)) [(.agg [(.con (.int .i64 c)), (.con (.int .i64 d))])] (.con (.bool (ok c d))))) ∧
    ((((!ok a b || !ok c d) = true) →
    ((FnOK Tryd.prog G ((15 : Nat)) [(.agg [(.con (.int .i64 a)), (.con (.int .i64 b))])] (.con (.bool (ok a b))) ∧
    (((ok a b == ok a b) = true) →
    FnOK Tryd.prog G ((15 : Nat)) [(.agg [(.con (.int .i64 c)), (.con (.int .i64 d))])] (.con (.bool (ok c d))))) ∧
    (((.con (.bool (ok a b == ok a b && ok c d == ok c d && ok a b == ok a b && ok c d == ok c d))) : DV) = (db true)))) ∧
    (((!ok a b || !ok c d) = false) →
    ((((!ok a b || !ok c d || !ok a b || !ok c d || decide (hunF a b > (1099511627776 : Int)) || decide (hunF a b < (-1099511627776 : Int)) || decide (flF a b > (1099511627776 : Int)) || decide (flF a b < (-1099511627776 : Int))) = true) →
    (((.con (.bool false)) : DV) = (db true))) ∧
    (((!ok a b || !ok c d || !ok a b || !ok c d || decide (hunF a b > (1099511627776 : Int)) || decide (hunF a b < (-1099511627776 : Int)) || decide (flF a b > (1099511627776 : Int)) || decide (flF a b < (-1099511627776 : Int))) = false) →
    (((I64 (hunF a b * b)) ∧
    ((I64 ((100 : Int) * a)) ∧
    ((I64 (hunF a b * b - (100 : Int) * a)) ∧
    ((I64 ((2 : Int) * (hunF a b * b - (100 : Int) * a))) ∧
    ((I64 (flF a b * b)) ∧
    (I64 (a - flF a b * b))))))) ∧
    ((R64 b) ∧
    ((((decide ((2 : Int) * (hunF a b * b - (100 : Int) * a) ≤ -b) || decide ((2 : Int) * (hunF a b * b - (100 : Int) * a) > b) || decide (a - flF a b * b < (0 : Int)) || decide (a - flF a b * b ≥ b)) = true) →
    (((.con (.bool false)) : DV) = (db true))) ∧
    (((decide ((2 : Int) * (hunF a b * b - (100 : Int) * a) ≤ -b) || decide ((2 : Int) * (hunF a b * b - (100 : Int) * a) > b) || decide (a - flF a b * b < (0 : Int)) || decide (a - flF a b * b ≥ b)) = false) →
    (FnOK Tryd.prog G ((27 : Nat)) [(.agg [(.con (.int .i64 a)), (.con (.int .i64 b))]), (.agg [(.con (.int .i64 c)), (.con (.int .i64 d))])] (.tup [(.con (.int .i64 (cmpF a b c d))), (.con (.bool (ok2 a b c d)))]) ∧
    (((.con (.bool (decide (cmpF a b c d > (0 : Int)) || decide (hunF a b ≤ hunF c d) && decide (flF a b ≤ flF c d)))) : DV) = (db true)))))))))))))))))))) (by kernel_rfl) ?_
  simp only [f25', f26', f15, f27, true_and, Bool.false_eq_true, false_imp_iff, forall_const, true_imp_iff, brec]
  refine ⟨f10 hT, ?_⟩
  cases h1 : ok a b with
  | false => cases h2 : ok c d <;> simp
  | true => cases h2 : ok c d with
    | false => simp
    | true =>
      have hb := ok_pos h1
      have hd := ok_pos h2
      have o1 := ok_spec h1
      have o2 := ok_spec h2
      obtain ⟨x1, x2⟩ := hun_spec (n := a) hb
      obtain ⟨y1, y2⟩ := fl_spec (n := a) hb
      have big : ∀ h : Int, (2 * (h * b) ≤ 200 * a + b ∧ 200 * a + b < 2 * (h * b) + 2 * b) → -200000000001 ≤ h ∧ h ≤ 200000000001 := by
        rintro h ⟨z1, z2⟩
        constructor
        · rcases Int.lt_or_le h (-200000000001) with hl | hl
          · have := Int.mul_le_mul_of_nonneg_right (show h + 1 ≤ -200000000000 by omega) (Int.le_of_lt hb)
            rw [Int.add_mul] at this; omega
          · exact hl
        · rcases Int.lt_or_le 200000000001 h with hl | hl
          · have := Int.mul_le_mul_of_nonneg_right (show 200000000000 ≤ h by omega) (Int.le_of_lt hb)
            omega
          · exact hl
      have bigf : ∀ h : Int, (h * b ≤ a ∧ a < h * b + b) → -200000000001 ≤ h ∧ h ≤ 200000000001 := by
        rintro h ⟨z1, z2⟩
        constructor
        · rcases Int.lt_or_le h (-200000000001) with hl | hl
          · have := Int.mul_le_mul_of_nonneg_right (show h + 1 ≤ -200000000000 by omega) (Int.le_of_lt hb)
            rw [Int.add_mul] at this; omega
          · exact hl
        · rcases Int.lt_or_le 200000000001 h with hl | hl
          · have := Int.mul_le_mul_of_nonneg_right (show 200000000000 ≤ h by omega) (Int.le_of_lt hb)
            omega
          · exact hl
      have b1 := big _ ⟨x1, x2⟩
      have b2 := bigf _ ⟨y1, y2⟩
      have m1 : ¬ cmpF a b c d > 0 → hun a b ≤ hun c d ∧ a / b ≤ c / d := by
        intro h
        have : a * d ≤ c * b := by
          simp only [cmpF, h1, h2, cmpI, Bool.and_self, if_true] at h
          split at h
          · omega
          · split at h
            · omega
            · omega
        exact ⟨hun_mono hb hd this, fl_mono hb hd this⟩
      simp only [hunF, flF, h1, h2, if_true]
      generalize cmpF a b c d = z at *
      generalize hun c d = hc at *
      generalize c / d = fc at *
      generalize hun a b = ha at *
      generalize a / b = fa at *
      generalize ha * b = hab at *
      generalize fa * b = fab at *
      simp [I64, R64]
      omega
end Go.Proofs
