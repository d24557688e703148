import Derived.Test.YthijempdiheabaaDoorAb15
import Derived.Test.YthijempdiheabaaDoorFb
import Derived.Test.YthijempdiheabaaDoorF8
set_option autoImplicit false
namespace Go.Proofs
open Go Go.Ab
set_option maxHeartbeats 1000000
set_option maxRecDepth 100000
variable {G : IH}
theorem qv_lt {a b c d : Int} (hb : 0 < b) (hd : 0 < d) : qv a b < qv c d ↔ a * d < c * b := by
  have hb' : (0 : Rat) < b := by exact_mod_cast hb
  have hd' : (0 : Rat) < d := by exact_mod_cast hd
  have hne : (d : Rat) ≠ 0 := cast_ne (by omega)
  unfold qv
  rw [Rat.div_lt_iff hb', show (c : Rat) / d * b = (c * b) / d by grind, Rat.lt_div_iff hd']
  exact_mod_cast Iff.rfl
theorem qv_pos {a b : Int} (hb : 0 < b) : 0 < qv a b ↔ 0 < a := by
  have hb' : (0 : Rat) < b := by exact_mod_cast hb
  unfold qv
  rw [Rat.lt_div_iff hb', Rat.zero_mul]
  exact_mod_cast Iff.rfl
def cmpR (x y : Rat) : Int := if x < y then -1 else if y < x then 1 else 0
theorem cmpF_eq {a b c d : Int} (h1 : ok a b = true) (h2 : ok c d = true) : cmpF a b c d = cmpR (qv a b) (qv c d) := by
  simp only [cmpF, h1, h2, Bool.and_self, if_true, cmpI, cmpR, qv_lt (ok_pos h1) (ok_pos h2), qv_lt (ok_pos h2) (ok_pos h1)]
theorem cmpF_anti (a b c d : Int) : cmpF c d a b = -cmpF a b c d := by
  simp only [cmpF, cmpI, Bool.and_comm (ok c d)]
  grind
theorem cmpF_bd (a b c d : Int) : -1 ≤ cmpF a b c d ∧ cmpF a b c d ≤ 1 := by
  simp only [cmpF, cmpI]
  grind
theorem cmp_zero {a b c d : Int} (h1 : ok a b = true) (h2 : ok c d = true) : cmpF a b c d = 0 ↔ a = c ∧ b = d := by
  rw [cmpF_eq h1 h2]
  constructor
  · intro h
    refine ok_uniq h1 h2 ?_
    unfold cmpR at h
    grind
  · rintro ⟨rfl, rfl⟩
    unfold cmpR; grind
theorem cmp_sub {a b c d : Int} (h1 : ok a b = true) (h2 : ok c d = true) (h : (subF a b c d).2.2 = 0) : (subF a b c d).1 > 0 ↔ cmpF a b c d > 0 := by
  obtain ⟨h3, h4⟩ := (subF_is h1 h2).val h
  rw [cmpF_eq h1 h2, gt_iff_lt, ← qv_pos (ok_pos h3), h4]
  unfold cmpR; grind
theorem cmp_trans {a b c d e f : Int} (h1 : ok a b = true) (h2 : ok c d = true) (h3 : ok e f = true) (k1 : cmpF a b c d ≤ 0) (k2 : cmpF c d e f ≤ 0) : cmpF a b e f ≤ 0 := by
  rw [cmpF_eq h1 h2] at k1
  rw [cmpF_eq h2 h3] at k2
  rw [cmpF_eq h1 h3]
  unfold cmpR at *; grind
theorem cmp_add {a b c d e f : Int} (k1 : (addF a b e f).2.2 = 0) (k2 : (addF c d e f).2.2 = 0) :
    ok2 (addF a b e f).1 (addF a b e f).2.1 (addF c d e f).1 (addF c d e f).2.1 = true ∧ cmpF (addF a b e f).1 (addF a b e f).2.1 (addF c d e f).1 (addF c d e f).2.1 = cmpF a b c d := by
  obtain ⟨h1, h3⟩ := addF_ok k1
  obtain ⟨h2, _⟩ := addF_ok k2
  obtain ⟨p1, p2⟩ := (addF_is h1 h3).val k1
  obtain ⟨q1, q2⟩ := (addF_is h2 h3).val k2
  refine ⟨by simp [ok2, p1, q1], ?_⟩
  rw [cmpF_eq p1 q1, cmpF_eq h1 h2, p2, q2]
  unfold cmpR; grind
theorem cmp_mul {a b c d e f : Int} (k1 : (mulF a b e f).2.2 = 0) (k2 : (mulF c d e f).2.2 = 0) (he : ¬ e < 0) :
    ok2 (mulF a b e f).1 (mulF a b e f).2.1 (mulF c d e f).1 (mulF c d e f).2.1 = true ∧ (cmpF a b c d > 0 ∨ cmpF (mulF a b e f).1 (mulF a b e f).2.1 (mulF c d e f).1 (mulF c d e f).2.1 ≤ 0) := by
  obtain ⟨h1, h3⟩ := mulF_ok k1
  obtain ⟨h2, _⟩ := mulF_ok k2
  obtain ⟨p1, p2⟩ := (mulF_is h1 h3).val k1
  obtain ⟨q1, q2⟩ := (mulF_is h2 h3).val k2
  refine ⟨by simp [ok2, p1, q1], ?_⟩
  rw [cmpF_eq p1 q1, cmpF_eq h1 h2, p2, q2]
  have hv : 0 ≤ qv e f := by
    have hf := ok_pos h3
    have := not_congr (qv_lt (a := e) (b := f) (c := 0) (d := 1) hf (by omega))
    rw [show qv 0 1 = 0 by unfold qv; grind] at this
    have h4 := this.2 (by omega)
    exact Rat.not_lt.1 h4
  by_cases hlt : qv c d < qv a b
  · left; unfold cmpR; grind
  · right
    have := Rat.mul_le_mul_of_nonneg_right (Rat.not_lt.1 hlt) hv
    unfold cmpR; grind
theorem ok2_comm (a b c d : Int) : ok2 c d a b = ok2 a b c d := by simp [ok2, Bool.and_comm]
theorem f6 (hT : Tab G) (a b c d e f : Int) : FnOK Tryd.prog G 6 [fr a b, fr c d, fr e f] (db true) := by
  refine FnOK.walk (orc := orc3) (keep := []) follows Tryd.func6 rfl Tryd.call6 ?_
  refine of_eqH (b :=
    (FnOK Tryd.prog G ((10 : Nat)) [] (.con (.bool true)) ∧
    (((false = true) →
    (((.con (.bool false)) : DV) = (db true))) ∧
    ((false = false) →
    (FnOK Tryd.prog G ((27 : Nat)) [(.agg [(.con (.int .i64 a)), (.con (.int .i64 b))]), (.agg [(.con (.int .i64 c)), (.con (.int .i64 d))])] (.tup [(.con (.int .i64 (cmpF a b c d))), (.con (.bool (ok2 a b c d)))]) ∧
    (FnOK Tryd.prog G ((27 : Nat)) [(.agg [(.con (.int .i64 c)), (.con (.int .i64 d))]), (.agg [(.con (.int .i64 a)), (.con (.int .i64 b))])] (.tup [(.con (.int .i64 (cmpF c d a b))), (.con (.bool (ok2 c d a b)))]) ∧
    ((FnOK Tryd.prog G ((15 : Nat)) [(.agg [(.con (.int .i64 a)), (.con (.int .i64 b))])] (.con (.bool (ok a b))) ∧
    ((((ok a b) = true) →
    FnOK Tryd.prog G ((15 : Nat)) [(.agg [(.con (.int .i64 c)), (.con (.int .i64 d))])] (.con (.bool (ok c d)))) ∧
    (((!(!ok2 a b c d == (ok a b && ok c d) || !ok2 c d a b == ok2 a b c d)) = true) →
    (R64 (cmpF c d a b))))) ∧
    ((((!ok2 a b c d == (ok a b && ok c d) || !ok2 c d a b == ok2 a b c d || cmpF a b c d != -cmpF c d a b) = true) →
    (((.con (.bool false)) : DV) = (db true))) ∧
    (((!ok2 a b c d == (ok a b && ok c d) || !ok2 c d a b == ok2 a b c d || cmpF a b c d != -cmpF c d a b) = false) →
    ((((!ok2 a b c d) = true) →
    (((.con (.bool (cmpF a b c d == (0 : Int)))) : DV) = (db true))) ∧
    (((!ok2 a b c d) = false) →
    ((((!(cmpF a b c d == (0 : Int)) == Bool.rec false (b == d) (a == c)) = true) →
    (((.con (.bool false)) : DV) = (db true))) ∧
    (((!(cmpF a b c d == (0 : Int)) == Bool.rec false (b == d) (a == c)) = false) →
    (FnOK Tryd.prog G ((23 : Nat)) [(.agg [(.con (.int .i64 a)), (.con (.int .i64 b))]), (.agg [(.con (.int .i64 c)), (.con (.int .i64 d))])] (.tup [(.agg [(.con (.int .i64 (Prod.fst (subF a b c d)))), (.con (.int .i64 (Prod.fst (Prod.snd (subF a b c d)))))]), (.con (.int .i64 (Prod.snd (Prod.snd (subF a b c d)))))]) ∧
    ((((Prod.snd (Prod.snd (subF a b c d)) == (0 : Int) && !decide (Prod.fst (subF a b c d) > (0 : Int)) == decide (cmpF a b c d > (0 : Int))) = true) →
    (((.con (.bool false)) : DV) = (db true))) ∧
    (((Prod.snd (Prod.snd (subF a b c d)) == (0 : Int) && !decide (Prod.fst (subF a b c d) > (0 : Int)) == decide (cmpF a b c d > (0 : Int))) = false) →
    (FnOK Tryd.prog G ((27 : Nat)) [(.agg [(.con (.int .i64 c)), (.con (.int .i64 d))]), (.agg [(.con (.int .i64 e)), (.con (.int .i64 f))])] (.tup [(.con (.int .i64 (cmpF c d e f))), (.con (.bool (ok2 c d e f)))]) ∧
    (FnOK Tryd.prog G ((27 : Nat)) [(.agg [(.con (.int .i64 a)), (.con (.int .i64 b))]), (.agg [(.con (.int .i64 e)), (.con (.int .i64 f))])] (.tup [(.con (.int .i64 (cmpF a b e f))), (.con (.bool (ok2 a b e f)))]) ∧
    ((((ok2 c d e f && ok2 a b e f && decide (cmpF a b c d ≤ (0 : Int)) && decide (cmpF c d e f ≤ (0 : Int)) && decide (cmpF a b e f > (0 : Int))) = true) →
    (((.con (.bool false)) : DV) = (db true))) ∧
    (((ok2 c d e f && ok2 a b e f && decide (cmpF a b c d ≤ (0 : Int)) && decide (cmpF c d e f ≤ (0 : Int)) && decide (cmpF a b e f > (0 : Int))) = false) →
    (FnOK Tryd.prog G ((21 : Nat)) [(.agg [(.con (.int .i64 a)), (.con (.int .i64 b))]), (.agg [(.con (.int .i64 e)), (.con (.int .i64 f))])] (.tup [(.agg [(.con (.int .i64 (Prod.fst (addF a b e f)))), (.con (.int .i64 (Prod.fst (Prod.snd (addF a b e f)))))]), (.con (.int .i64 (Prod.snd (Prod.snd (addF a b e f)))))]) ∧
    (FnOK Tryd.prog G ((21 : Nat)) [(.agg [(.con (.int .i64 c)), (.con (.int .i64 d))]), (.agg [(.con (.int .i64 e)), (.con (.int .i64 f))])] (.tup [(.agg [(.con (.int .i64 (Prod.fst (addF c d e f)))), (.con (.int .i64 (Prod.fst (Prod.snd (addF c d e f)))))]), (.con (.int .i64 (Prod.snd (Prod.snd (addF c d e f)))))]) ∧
    (FnOK Tryd.prog G ((27 : Nat)) [(.agg [(.con (.int .i64 (Prod.fst (addF a b e f)))), (.con (.int .i64 (Prod.fst (Prod.snd (addF a b e f)))))]), (.agg [(.con (.int .i64 (Prod.fst (addF c d e f)))), (.con (.int .i64 (Prod.fst (Prod.snd (addF c d e f)))))])] (.tup [(.con (.int .i64 (cmpF (Prod.fst (addF a b e f)) (Prod.fst (Prod.snd (addF a b e f))) (Prod.fst (addF c d e f)) (Prod.fst (Prod.snd (addF c d e f)))))), (.con (.bool (ok2 (Prod.fst (addF a b e f)) (Prod.fst (Prod.snd (addF a b e f))) (Prod.fst (addF c d e f)) (Prod.fst (Prod.snd (addF c d e f))))))]) ∧
    ((((Prod.snd (Prod.snd (addF a b e f)) == (0 : Int) && Prod.snd (Prod.snd (addF c d e f)) == (0 : Int) && (!ok2 (Prod.fst (addF a b e f)) (Prod.fst (Prod.snd (addF a b e f))) (Prod.fst (addF c d e f)) (Prod.fst (Prod.snd (addF c d e f))) || cmpF (Prod.fst (addF a b e f)) (Prod.fst (Prod.snd (addF a b e f))) (Prod.fst (addF c d e f)) (Prod.fst (Prod.snd (addF c d e f))) != cmpF a b c d)) = true) →
    (((.con (.bool false)) : DV) = (db true))) ∧
    (((Prod.snd (Prod.snd (addF a b e f)) == (0 : Int) && Prod.snd (Prod.snd (addF c d e f)) == (0 : Int) && (!ok2 (Prod.fst (addF a b e f)) (Prod.fst (Prod.snd (addF a b e f))) (Prod.fst (addF c d e f)) (Prod.fst (Prod.snd (addF c d e f))) || cmpF (Prod.fst (addF a b e f)) (Prod.fst (Prod.snd (addF a b e f))) (Prod.fst (addF c d e f)) (Prod.fst (Prod.snd (addF c d e f))) != cmpF a b c d)) = false) →
    (FnOK Tryd.prog G ((22 : Nat)) [(.agg [(.con (.int .i64 a)), (.con (.int .i64 b))]), (.agg [(.con (.int .i64 e)), (.con (.int .i64 f))])] (.tup [(.agg [(.con (.int .i64 (Prod.fst (mulF a b e f)))), (.con (.int .i64 (Prod.fst (Prod.snd (mulF a b e f)))))]), (.con (.int .i64 (Prod.snd (Prod.snd (mulF a b e f)))))]) ∧
    (FnOK Tryd.prog G ((22 : Nat)) [(.agg [(.con (.int .i64 c)), (.con (.int .i64 d))]), (.agg [(.con (.int .i64 e)), (.con (.int .i64 f))])] (.tup [(.agg [(.con (.int .i64 (Prod.fst (mulF c d e f)))), (.con (.int .i64 (Prod.fst (Prod.snd (mulF c d e f)))))]), (.con (.int .i64 (Prod.snd (Prod.snd (mulF c d e f)))))]) ∧
    (FnOK Tryd.prog G ((27 : Nat)) [(.agg [(.con (.int .i64 (Prod.fst (mulF a b e f)))), (.con (.int .i64 (Prod.fst (Prod.snd (mulF a b e f)))))]), (.agg [(.con (.int .i64 (Prod.fst (mulF c d e f)))), (.con (.int .i64 (Prod.fst (Prod.snd (mulF c d e f)))))])] (.tup [(.con (.int .i64 (cmpF (Prod.fst (mulF a b e f)) (Prod.fst (Prod.snd (mulF a b e f))) (Prod.fst (mulF c d e f)) (Prod.fst (Prod.snd (mulF c d e f)))))), (.con (.bool (ok2 (Prod.fst (mulF a b e f)) (Prod.fst (Prod.snd (mulF a b e f))) (Prod.fst (mulF c d e f)) (Prod.fst (Prod.snd (mulF c d e f))))))]) ∧
    (((.con (.bool (Prod.snd (Prod.snd (mulF a b e f)) != (0 : Int) || Prod.snd (Prod.snd (mulF c d e f)) != (0 : Int) || decide (e < (0 : Int)) || ok2 (Prod.fst (mulF a b e f)) (Prod.fst (Prod.snd (mulF a b e f))) (Prod.fst (mulF c d e f)) (Prod.fst (Prod.snd (mulF c d e f))) && (decide (cmpF a b c d > (0 : Int)) || decide (cmpF (Prod.fst (mulF a b e f)) (Prod.fst (Prod.snd (mulF a b e f))) (Prod.fst (mulF c d e f)) (Prod.fst (Prod.snd (mulF c d e f))) ≤ (0 : Int)))))) : DV) = (db true)))))))))))))))))))))))))))))) (by kernel_rfl) ?_
  simp only [f21', f22', f23', f24', f15, f27, true_and, Bool.false_eq_true, false_imp_iff, forall_const, true_imp_iff, brec]
  refine ⟨f10 hT, ?_⟩
  have b0 := cmpF_bd a b c d
  have b1 := cmpF_bd c d a b
  have b2 := cmpF_anti a b c d
  rw [ok2_comm a b c d, b2]
  have k0 : ok2 a b c d = true → ok a b = true ∧ ok c d = true := by simp [ok2]
  have k0' : ok2 a b c d = false → cmpF a b c d = 0 := by intro h; unfold ok2 at h; simp [cmpF, h]
  have k00 : ok2 a b c d = (ok a b && ok c d) := rfl
  rw [← k00]
  simp only [R64]
  refine ⟨⟨fun _ => trivial, fun _ => ⟨by omega, by omega⟩⟩, fun h => ?_, fun _ => ⟨fun h => ?_, fun h => ?_⟩⟩
  · simp at h
  · have := k0' (by simpa using h)
    simp [this]
  · obtain ⟨h1, h2⟩ := k0 (by simpa using h)
    have k1 := cmp_zero h1 h2
    refine ⟨fun h => ?_, fun _ => ⟨fun h => ?_, fun _ => ⟨fun h => ?_, fun _ => ⟨fun h => ?_, fun _ => ?_⟩⟩⟩⟩
    · exfalso
      revert h
      by_cases hz : cmpF a b c d = 0
      · obtain ⟨rfl, rfl⟩ := k1.1 hz
        simp [hz]
      · have : ¬ (a = c ∧ b = d) := fun hh => hz (k1.2 hh)
        have e1 : (cmpF a b c d == 0) = false := by simpa using hz
        have e2 : (a == c && b == d) = false := by
          cases hh : (a == c && b == d) with
          | false => rfl
          | true => exact absurd (by simpa using hh) this
        rw [e1, e2]; simp
    · exfalso
      simp only [Bool.and_eq_true, beq_iff_eq, Bool.not_eq_true', beq_eq_false_iff_ne, ne_eq, decide_eq_decide] at h
      exact h.2 (cmp_sub h1 h2 h.1)
    · exfalso
      simp only [Bool.and_eq_true, decide_eq_true_eq] at h
      have h3 : ok e f = true := by have := h.1.1.1.1; simp [ok2] at this; exact this.2
      have := cmp_trans h1 h2 h3 h.1.1.2 h.1.2
      omega
    · exfalso
      simp only [Bool.and_eq_true, beq_iff_eq] at h
      obtain ⟨h3, h4⟩ := cmp_add h.1.1 h.1.2
      rw [h3, h4] at h
      simp at h
    · refine congrArg db ?_
      simp only [Bool.or_eq_true, bne_iff_ne, ne_eq, decide_eq_true_eq, Bool.and_eq_true]
      by_cases q1 : (mulF a b e f).2.2 = 0
      · by_cases q2 : (mulF c d e f).2.2 = 0
        · by_cases q3 : e < 0
          · exact .inl (.inr q3)
          · exact .inr (cmp_mul q1 q2 q3)
        · exact .inl (.inl (.inr q2))
      · exact .inl (.inl (.inl q1))

end Go.Proofs
