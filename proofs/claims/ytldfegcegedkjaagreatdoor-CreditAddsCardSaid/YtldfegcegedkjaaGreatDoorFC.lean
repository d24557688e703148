import Derived.Test.YtldfegcegedkjaaGreatDoorAcC
import Derived.Test.YtldfegcegedkjaaGreatDoorFA

set_option autoImplicit false
namespace Go.Proofs
open Go Go.Ab
set_option maxHeartbeats 1000000
set_option maxRecDepth 100000
variable {G : IH}
@[match_pattern] abbrev fn (k : Nat) : DV := .con (.func (.func k) #[] #[])
/-- The fraction of a numerator and a denominator of an operation. -/
def opr (okk : Bool) (x : Int × Int) : FE := if okk then (if x.2 = 0 then (0, 0, 2) else red x.1 x.2) else (0, 0, 1)
def opF (k : Nat) (a b c d : Int) : Int × Int := match k with
  | 101 => (a * d + c * b, b * d)
  | 79 => (a * c, b * d)
  | 89 => (a * d - c * b, b * d)
  | _ => (a * d, b * c)
def orc2 : Oracle
  | 101, [fr a b, fr c d] => some (.tup [di (opF 101 a b c d).1, di (opF 101 a b c d).2])
  | 79, [fr a b, fr c d] => some (.tup [di (opF 79 a b c d).1, di (opF 79 a b c d).2])
  | 89, [fr a b, fr c d] => some (.tup [di (opF 89 a b c d).1, di (opF 89 a b c d).2])
  | 78, [fn k] => some (.clo (.func 96) [] [.ptr [fn k]])
  | 96, [fr a b, fr c d, .ptr [fn k]] => some (fe (opr (ok a b && ok c d) (opF k a b c d)))
  | f, l => orc f l
theorem mb {x y : Int} (A B : Nat) (hx : -(A : Int) ≤ x ∧ x ≤ A) (hy : -(B : Int) ≤ y ∧ y ≤ B) : -((A * B : Nat) : Int) ≤ x * y ∧ x * y ≤ ((A * B : Nat) : Int) := by
  have h1 : x.natAbs ≤ A := by omega
  have h2 : y.natAbs ≤ B := by omega
  have h3 := Nat.mul_le_mul h1 h2
  rw [← Int.natAbs_mul] at h3
  omega
theorem f78 (k : Nat) : FnOK Tryz.prog G 78 [fn k] (.clo (.func 96) [] [.ptr [fn k]]) := by
  refine FnOK.walk (orc := orc2) (keep := []) follows Tryz.func78 rfl Tryz.call78 ?_
  refine of_eqH (b :=
    (((.clo (.func 96) [] [(.ptr [(.con (.func (.func k) ⟨[]⟩ ⟨[]⟩))])]) : DV) = (.clo (.func 96) [] [(.ptr [(fn k)])]))) (by kernel_rfl) ?_
  rfl
theorem okb {n d : Int} (h : ok n d = true) : (-((1000000000 : Nat) : Int) ≤ n ∧ n ≤ ((1000000000 : Nat) : Int)) ∧ (-((1000000 : Nat) : Int) ≤ d ∧ d ≤ ((1000000 : Nat) : Int)) := by
  have := ok_spec h; omega
theorem f101 (a b c d : Int) (h1 : ok a b = true) (h2 : ok c d = true) : FnOK Tryz.prog G 101 [fr a b, fr c d] (.tup [di (opF 101 a b c d).1, di (opF 101 a b c d).2]) := by
  refine FnOK.walk (orc := orc2) (keep := []) follows Tryz.func101 rfl Tryz.call101 ?_
  refine of_eqH (b :=
    (((I64 (a * d)) ∧
    ((I64 (c * b)) ∧
    ((I64 (a * d + c * b)) ∧
    (I64 (b * d))))) ∧
    (((.tup [(di (a * d + c * b)), (di (b * d))]) : DV) = (.tup [(di (Prod.fst (opF (101 : Nat) a b c d))), (di (Prod.snd (opF (101 : Nat) a b c d)))])))) (by kernel_rfl) ?_
  have m0 := mb _ _ (okb h1).1 (okb h2).2
  have m1 := mb _ _ (okb h2).1 (okb h1).2
  have m2 := mb _ _ (okb h1).2 (okb h2).2
  exact ⟨⟨⟨by omega, by omega⟩, ⟨by omega, by omega⟩, ⟨by omega, by omega⟩, by omega, by omega⟩, rfl⟩
theorem opR101 {a b c d : Int} (h1 : ok a b = true) (h2 : ok c d = true) : R64 (opF 101 a b c d).1 ∧ R64 (opF 101 a b c d).2 := by
  have m0 := mb _ _ (okb h1).1 (okb h2).2
  have m1 := mb _ _ (okb h2).1 (okb h1).2
  have m2 := mb _ _ (okb h1).2 (okb h2).2
  simp only [opF]
  exact ⟨⟨by omega, by omega⟩, by omega, by omega⟩
theorem f96_101 (a b c d : Int) : FnOK Tryz.prog G 96 [fr a b, fr c d, .ptr [fn 101]] (fe (opr (ok a b && ok c d) (opF 101 a b c d))) := by
  refine FnOK.walk (orc := orc2) (keep := []) follows Tryz.func96 rfl Tryz.call96 ?_
  refine of_eqH (b :=
    ((FnOK Tryz.prog G 43 [(.agg [(di a), (di b)])] (db (ok a b)) ∧
    (((!!ok a b) = true) →
    FnOK Tryz.prog G 43 [(.agg [(di c), (di d)])] (db (ok c d)))) ∧
    ((((!ok a b || !ok c d) = true) →
    (((.tup [(.agg [(di 0), (di 0)]), (di 1)]) : DV) = (fe (opr (ok a b && ok c d) (opF (101 : Nat) a b c d))))) ∧
    (((!ok a b || !ok c d) = false) →
    (FnOK Tryz.prog G 101 [(.agg [(di a), (di b)]), (.agg [(di c), (di d)])] (.tup [(di (a * d + c * b)), (di (b * d))]) ∧
    ((((b * d == (0 : Int)) = true) →
    (((.tup [(.agg [(di 0), (di 0)]), (di 2)]) : DV) = (fe (opr (ok a b && ok c d) (opF (101 : Nat) a b c d))))) ∧
    (((b * d == (0 : Int)) = false) →
    (FnOK Tryz.prog G 97 [(di (a * d + c * b)), (di (b * d))] (.tup [(.agg [(di (Prod.fst (red (a * d + c * b) (b * d)))), (di (Prod.fst (Prod.snd (red (a * d + c * b) (b * d)))))]), (di (Prod.snd (Prod.snd (red (a * d + c * b) (b * d)))))]) ∧
    (((.tup [(.agg [(di (Prod.fst (red (a * d + c * b) (b * d)))), (di (Prod.fst (Prod.snd (red (a * d + c * b) (b * d)))))]), (di (Prod.snd (Prod.snd (red (a * d + c * b) (b * d)))))]) : DV) = (fe (opr (ok a b && ok c d) (opF (101 : Nat) a b c d)))))))))))) (by kernel_rfl) ?_
  refine ⟨⟨f43 a b, fun _ => f43 c d⟩, fun h => ?_, fun h => ?_⟩
  · have h : (ok a b && ok c d) = false := by cases ha : ok a b <;> cases hc : ok c d <;> simp_all
    rw [h]; rfl
  · have h1 : ok a b = true := by cases ha : ok a b <;> simp_all
    have h2 : ok c d = true := by cases ha : ok c d <;> simp_all
    rw [h1, h2]
    have hr := opR101 h1 h2
    refine ⟨f101 a b c d h1 h2, fun h => ?_, fun h => ⟨f97 _ _ (by simpa using h) hr.1 hr.2, ?_⟩⟩
    · simp only [opr, opF]; rw [if_pos (show (true && true) = true from rfl), if_pos (by simpa using h)]; rfl
    · simp only [opr, opF]; rw [if_pos (show (true && true) = true from rfl), if_neg (by simpa using h)]; rfl
theorem f82 (a b c d : Int) : FnOK Tryz.prog G 82 [fr a b, fr c d] (fe (opr (ok a b && ok c d) (opF 101 a b c d))) := by
  refine FnOK.walk (orc := orc2) (keep := []) follows Tryz.func82 rfl Tryz.call82 ?_
  refine of_eqH (b :=
    ((FnOK Tryz.prog G 78 [(.con (.func (.func 101) ⟨[]⟩ ⟨[]⟩))] (.clo (.func 96) [] [(.ptr [(.con (.func (.func 101) ⟨[]⟩ ⟨[]⟩))])]) ∧
    FnOK Tryz.prog G 96 [(.agg [(di a), (di b)]), (.agg [(di c), (di d)]), (.ptr [(.con (.func (.func 101) ⟨[]⟩ ⟨[]⟩))])] (.tup [(.agg [(di (Prod.fst (opr (ok a b && ok c d) (opF (101 : Nat) a b c d)))), (di (Prod.fst (Prod.snd (opr (ok a b && ok c d) (opF (101 : Nat) a b c d)))))]), (di (Prod.snd (Prod.snd (opr (ok a b && ok c d) (opF (101 : Nat) a b c d)))))])) ∧
    (((.tup [(.agg [(di (Prod.fst (opr (ok a b && ok c d) (opF (101 : Nat) a b c d)))), (di (Prod.fst (Prod.snd (opr (ok a b && ok c d) (opF (101 : Nat) a b c d)))))]), (di (Prod.snd (Prod.snd (opr (ok a b && ok c d) (opF (101 : Nat) a b c d)))))]) : DV) = (fe (opr (ok a b && ok c d) (opF (101 : Nat) a b c d)))))) (by kernel_rfl) ?_
  exact ⟨⟨f78 101, f96_101 a b c d⟩, rfl⟩
theorem f79 (a b c d : Int) (h1 : ok a b = true) (h2 : ok c d = true) : FnOK Tryz.prog G 79 [fr a b, fr c d] (.tup [di (opF 79 a b c d).1, di (opF 79 a b c d).2]) := by
  refine FnOK.walk (orc := orc2) (keep := []) follows Tryz.func79 rfl Tryz.call79 ?_
  refine of_eqH (b :=
    (((I64 (a * c)) ∧
    (I64 (b * d))) ∧
    (((.tup [(di (a * c)), (di (b * d))]) : DV) = (.tup [(di (Prod.fst (opF (79 : Nat) a b c d))), (di (Prod.snd (opF (79 : Nat) a b c d)))])))) (by kernel_rfl) ?_
  have m0 := mb _ _ (okb h1).1 (okb h2).1
  have m1 := mb _ _ (okb h1).2 (okb h2).2
  exact ⟨⟨⟨by omega, by omega⟩, by omega, by omega⟩, rfl⟩
theorem opR79 {a b c d : Int} (h1 : ok a b = true) (h2 : ok c d = true) : R64 (opF 79 a b c d).1 ∧ R64 (opF 79 a b c d).2 := by
  have m0 := mb _ _ (okb h1).1 (okb h2).1
  have m1 := mb _ _ (okb h1).2 (okb h2).2
  simp only [opF]
  exact ⟨⟨by omega, by omega⟩, by omega, by omega⟩
theorem f96_79 (a b c d : Int) : FnOK Tryz.prog G 96 [fr a b, fr c d, .ptr [fn 79]] (fe (opr (ok a b && ok c d) (opF 79 a b c d))) := by
  refine FnOK.walk (orc := orc2) (keep := []) follows Tryz.func96 rfl Tryz.call96 ?_
  refine of_eqH (b :=
    ((FnOK Tryz.prog G 43 [(.agg [(di a), (di b)])] (db (ok a b)) ∧
    (((!!ok a b) = true) →
    FnOK Tryz.prog G 43 [(.agg [(di c), (di d)])] (db (ok c d)))) ∧
    ((((!ok a b || !ok c d) = true) →
    (((.tup [(.agg [(di 0), (di 0)]), (di 1)]) : DV) = (fe (opr (ok a b && ok c d) (opF (79 : Nat) a b c d))))) ∧
    (((!ok a b || !ok c d) = false) →
    (FnOK Tryz.prog G 79 [(.agg [(di a), (di b)]), (.agg [(di c), (di d)])] (.tup [(di (a * c)), (di (b * d))]) ∧
    ((((b * d == (0 : Int)) = true) →
    (((.tup [(.agg [(di 0), (di 0)]), (di 2)]) : DV) = (fe (opr (ok a b && ok c d) (opF (79 : Nat) a b c d))))) ∧
    (((b * d == (0 : Int)) = false) →
    (FnOK Tryz.prog G 97 [(di (a * c)), (di (b * d))] (.tup [(.agg [(di (Prod.fst (red (a * c) (b * d)))), (di (Prod.fst (Prod.snd (red (a * c) (b * d)))))]), (di (Prod.snd (Prod.snd (red (a * c) (b * d)))))]) ∧
    (((.tup [(.agg [(di (Prod.fst (red (a * c) (b * d)))), (di (Prod.fst (Prod.snd (red (a * c) (b * d)))))]), (di (Prod.snd (Prod.snd (red (a * c) (b * d)))))]) : DV) = (fe (opr (ok a b && ok c d) (opF (79 : Nat) a b c d)))))))))))) (by kernel_rfl) ?_
  refine ⟨⟨f43 a b, fun _ => f43 c d⟩, fun h => ?_, fun h => ?_⟩
  · have h : (ok a b && ok c d) = false := by cases ha : ok a b <;> cases hc : ok c d <;> simp_all
    rw [h]; rfl
  · have h1 : ok a b = true := by cases ha : ok a b <;> simp_all
    have h2 : ok c d = true := by cases ha : ok c d <;> simp_all
    rw [h1, h2]
    have hr := opR79 h1 h2
    refine ⟨f79 a b c d h1 h2, fun h => ?_, fun h => ⟨f97 _ _ (by simpa using h) hr.1 hr.2, ?_⟩⟩
    · simp only [opr, opF]; rw [if_pos (show (true && true) = true from rfl), if_pos (by simpa using h)]; rfl
    · simp only [opr, opF]; rw [if_pos (show (true && true) = true from rfl), if_neg (by simpa using h)]; rfl
theorem f46 (a b c d : Int) : FnOK Tryz.prog G 46 [fr a b, fr c d] (fe (opr (ok a b && ok c d) (opF 79 a b c d))) := by
  refine FnOK.walk (orc := orc2) (keep := []) follows Tryz.func46 rfl Tryz.call46 ?_
  refine of_eqH (b :=
    ((FnOK Tryz.prog G 78 [(.con (.func (.func 79) ⟨[]⟩ ⟨[]⟩))] (.clo (.func 96) [] [(.ptr [(.con (.func (.func 79) ⟨[]⟩ ⟨[]⟩))])]) ∧
    FnOK Tryz.prog G 96 [(.agg [(di a), (di b)]), (.agg [(di c), (di d)]), (.ptr [(.con (.func (.func 79) ⟨[]⟩ ⟨[]⟩))])] (.tup [(.agg [(di (Prod.fst (opr (ok a b && ok c d) (opF (79 : Nat) a b c d)))), (di (Prod.fst (Prod.snd (opr (ok a b && ok c d) (opF (79 : Nat) a b c d)))))]), (di (Prod.snd (Prod.snd (opr (ok a b && ok c d) (opF (79 : Nat) a b c d)))))])) ∧
    (((.tup [(.agg [(di (Prod.fst (opr (ok a b && ok c d) (opF (79 : Nat) a b c d)))), (di (Prod.fst (Prod.snd (opr (ok a b && ok c d) (opF (79 : Nat) a b c d)))))]), (di (Prod.snd (Prod.snd (opr (ok a b && ok c d) (opF (79 : Nat) a b c d)))))]) : DV) = (fe (opr (ok a b && ok c d) (opF (79 : Nat) a b c d)))))) (by kernel_rfl) ?_
  exact ⟨⟨f78 79, f96_79 a b c d⟩, rfl⟩
theorem f89 (a b c d : Int) (h1 : ok a b = true) (h2 : ok c d = true) : FnOK Tryz.prog G 89 [fr a b, fr c d] (.tup [di (opF 89 a b c d).1, di (opF 89 a b c d).2]) := by
  refine FnOK.walk (orc := orc2) (keep := []) follows Tryz.func89 rfl Tryz.call89 ?_
  refine of_eqH (b :=
    (((I64 (a * d)) ∧
    ((I64 (c * b)) ∧
    ((I64 (a * d - c * b)) ∧
    (I64 (b * d))))) ∧
    (((.tup [(di (a * d - c * b)), (di (b * d))]) : DV) = (.tup [(di (Prod.fst (opF (89 : Nat) a b c d))), (di (Prod.snd (opF (89 : Nat) a b c d)))])))) (by kernel_rfl) ?_
  have m0 := mb _ _ (okb h1).1 (okb h2).2
  have m1 := mb _ _ (okb h2).1 (okb h1).2
  have m2 := mb _ _ (okb h1).2 (okb h2).2
  exact ⟨⟨⟨by omega, by omega⟩, ⟨by omega, by omega⟩, ⟨by omega, by omega⟩, by omega, by omega⟩, rfl⟩
theorem opR89 {a b c d : Int} (h1 : ok a b = true) (h2 : ok c d = true) : R64 (opF 89 a b c d).1 ∧ R64 (opF 89 a b c d).2 := by
  have m0 := mb _ _ (okb h1).1 (okb h2).2
  have m1 := mb _ _ (okb h2).1 (okb h1).2
  have m2 := mb _ _ (okb h1).2 (okb h2).2
  simp only [opF]
  exact ⟨⟨by omega, by omega⟩, by omega, by omega⟩
theorem f96_89 (a b c d : Int) : FnOK Tryz.prog G 96 [fr a b, fr c d, .ptr [fn 89]] (fe (opr (ok a b && ok c d) (opF 89 a b c d))) := by
  refine FnOK.walk (orc := orc2) (keep := []) follows Tryz.func96 rfl Tryz.call96 ?_
  refine of_eqH (b :=
    ((FnOK Tryz.prog G 43 [(.agg [(di a), (di b)])] (db (ok a b)) ∧
    (((!!ok a b) = true) →
    FnOK Tryz.prog G 43 [(.agg [(di c), (di d)])] (db (ok c d)))) ∧
    ((((!ok a b || !ok c d) = true) →
    (((.tup [(.agg [(di 0), (di 0)]), (di 1)]) : DV) = (fe (opr (ok a b && ok c d) (opF (89 : Nat) a b c d))))) ∧
    (((!ok a b || !ok c d) = false) →
    (FnOK Tryz.prog G 89 [(.agg [(di a), (di b)]), (.agg [(di c), (di d)])] (.tup [(di (a * d - c * b)), (di (b * d))]) ∧
    ((((b * d == (0 : Int)) = true) →
    (((.tup [(.agg [(di 0), (di 0)]), (di 2)]) : DV) = (fe (opr (ok a b && ok c d) (opF (89 : Nat) a b c d))))) ∧
    (((b * d == (0 : Int)) = false) →
    (FnOK Tryz.prog G 97 [(di (a * d - c * b)), (di (b * d))] (.tup [(.agg [(di (Prod.fst (red (a * d - c * b) (b * d)))), (di (Prod.fst (Prod.snd (red (a * d - c * b) (b * d)))))]), (di (Prod.snd (Prod.snd (red (a * d - c * b) (b * d)))))]) ∧
    (((.tup [(.agg [(di (Prod.fst (red (a * d - c * b) (b * d)))), (di (Prod.fst (Prod.snd (red (a * d - c * b) (b * d)))))]), (di (Prod.snd (Prod.snd (red (a * d - c * b) (b * d)))))]) : DV) = (fe (opr (ok a b && ok c d) (opF (89 : Nat) a b c d)))))))))))) (by kernel_rfl) ?_
  refine ⟨⟨f43 a b, fun _ => f43 c d⟩, fun h => ?_, fun h => ?_⟩
  · have h : (ok a b && ok c d) = false := by cases ha : ok a b <;> cases hc : ok c d <;> simp_all
    rw [h]; rfl
  · have h1 : ok a b = true := by cases ha : ok a b <;> simp_all
    have h2 : ok c d = true := by cases ha : ok c d <;> simp_all
    rw [h1, h2]
    have hr := opR89 h1 h2
    refine ⟨f89 a b c d h1 h2, fun h => ?_, fun h => ⟨f97 _ _ (by simpa using h) hr.1 hr.2, ?_⟩⟩
    · simp only [opr, opF]; rw [if_pos (show (true && true) = true from rfl), if_pos (by simpa using h)]; rfl
    · simp only [opr, opF]; rw [if_pos (show (true && true) = true from rfl), if_neg (by simpa using h)]; rfl
theorem f62 (a b c d : Int) : FnOK Tryz.prog G 62 [fr a b, fr c d] (fe (opr (ok a b && ok c d) (opF 89 a b c d))) := by
  refine FnOK.walk (orc := orc2) (keep := []) follows Tryz.func62 rfl Tryz.call62 ?_
  refine of_eqH (b :=
    ((FnOK Tryz.prog G 78 [(.con (.func (.func 89) ⟨[]⟩ ⟨[]⟩))] (.clo (.func 96) [] [(.ptr [(.con (.func (.func 89) ⟨[]⟩ ⟨[]⟩))])]) ∧
    FnOK Tryz.prog G 96 [(.agg [(di a), (di b)]), (.agg [(di c), (di d)]), (.ptr [(.con (.func (.func 89) ⟨[]⟩ ⟨[]⟩))])] (.tup [(.agg [(di (Prod.fst (opr (ok a b && ok c d) (opF (89 : Nat) a b c d)))), (di (Prod.fst (Prod.snd (opr (ok a b && ok c d) (opF (89 : Nat) a b c d)))))]), (di (Prod.snd (Prod.snd (opr (ok a b && ok c d) (opF (89 : Nat) a b c d)))))])) ∧
    (((.tup [(.agg [(di (Prod.fst (opr (ok a b && ok c d) (opF (89 : Nat) a b c d)))), (di (Prod.fst (Prod.snd (opr (ok a b && ok c d) (opF (89 : Nat) a b c d)))))]), (di (Prod.snd (Prod.snd (opr (ok a b && ok c d) (opF (89 : Nat) a b c d)))))]) : DV) = (fe (opr (ok a b && ok c d) (opF (89 : Nat) a b c d)))))) (by kernel_rfl) ?_
  exact ⟨⟨f78 89, f96_89 a b c d⟩, rfl⟩
end Go.Proofs


set_option autoImplicit false
namespace Go.Proofs
open Go Go.Ab
theorem dvd_cop {q p d : Int} (h : q ∣ p * d) (g : Int.gcd q p = 1) : q ∣ d := by
  have := Int.dvd_coe_gcd (a := q * d) (b := p * d) (c := q) ⟨d, rfl⟩ h
  rw [Int.gcd_mul_right, g, Nat.one_mul] at this
  exact Int.dvd_natAbs.1 this
def qv (n d : Int) : Rat := (n : Rat) / (d : Rat)
theorem cast_ne {d : Int} (h : d ≠ 0) : (d : Rat) ≠ 0 := by
  intro hh; exact h (by exact_mod_cast hh)
theorem qv_eq {p q n d : Int} (hq : q ≠ 0) (hd : d ≠ 0) : qv p q = qv n d ↔ p * d = n * q := by
  have h1 := cast_ne hq
  have h2 := cast_ne hd
  unfold qv
  constructor
  · intro h
    have : (p : Rat) * d = n * q := by grind
    exact_mod_cast this
  · intro h
    have : (p : Rat) * d = n * q := by exact_mod_cast h
    grind
theorem ok_pos {n d : Int} (h : ok n d = true) : 0 < d := by have := ok_spec h; omega
theorem ok_uniq {p q n d : Int} (h1 : ok p q = true) (h2 : ok n d = true) (h : qv p q = qv n d) : p = n ∧ q = d := by
  have hq := ok_pos h1
  have hd := ok_pos h2
  rw [qv_eq (by omega) (by omega)] at h
  have g1 := (ok_spec h1).2.2.2.2
  have g2 := (ok_spec h2).2.2.2.2
  have d1 : q ∣ d := by
    have : q ∣ p * d := ⟨n, by rw [h, Int.mul_comm]⟩
    exact dvd_cop this (by rw [Int.gcd_comm]; exact g1)
  have d2 : d ∣ q := by
    have : d ∣ n * q := ⟨p, by rw [← h, Int.mul_comm]⟩
    exact dvd_cop this (by rw [Int.gcd_comm]; exact g2)
  have hqd : q = d := Int.le_antisymm (Int.le_of_dvd hd d1) (Int.le_of_dvd hq d2)
  subst hqd
  exact ⟨Int.eq_of_mul_eq_mul_right (by omega) h, rfl⟩
theorem red1_spec {n d : Int} (hd : 0 < d) : (∀ p q, ok p q = true → qv p q = qv n d → red1 n d = (p, q, 0)) ∧ ((red1 n d).2.2 = 0 → ok (red1 n d).1 (red1 n d).2.1 = true ∧ qv (red1 n d).1 (red1 n d).2.1 = qv n d) ∧ ((red1 n d).2.2 ≠ 0 → red1 n d = (0, 0, 2)) := by
  have hg := gcd_pos' (n := n) hd
  obtain ⟨a, ha⟩ := Int.gcd_dvd_left (a := n) (b := d)
  obtain ⟨b, hb⟩ := Int.gcd_dvd_right (a := n) (b := d)
  have e1 : n.tdiv (Int.gcd n d) = a := by rw [show n.tdiv (Int.gcd n d) = ((Int.gcd n d : Int) * a).tdiv (Int.gcd n d) by rw [← ha]]; exact Int.mul_tdiv_cancel_left a (by omega)
  have e2 : d.tdiv (Int.gcd n d) = b := by rw [show d.tdiv (Int.gcd n d) = ((Int.gcd n d : Int) * b).tdiv (Int.gcd n d) by rw [← hb]]; exact Int.mul_tdiv_cancel_left b (by omega)
  have hb0 : 0 < b := by
    rcases Int.lt_or_le 0 b with h | h
    · exact h
    · have := Int.mul_nonpos_of_nonneg_of_nonpos (Int.le_of_lt hg) h; omega
  have hv : qv a b = qv n d := by
    rw [qv_eq (by omega) (by omega)]
    generalize (Int.gcd n d : Int) = g at *
    rw [ha, hb]; grind
  have hgab : Int.gcd a b = 1 := by
    have h3 : Int.gcd (n / (Int.gcd n d)) (d / (Int.gcd n d)) = 1 := Int.gcd_ediv_gcd_ediv_gcd_of_ne_zero_right (by omega)
    rw [← Int.tdiv_eq_ediv_of_dvd (Int.gcd_dvd_left ..), ← Int.tdiv_eq_ediv_of_dvd (Int.gcd_dvd_right ..), e1, e2] at h3
    exact h3
  unfold red1
  rw [e1, e2]
  refine ⟨fun p q hok hpq => ?_, ?_, ?_⟩
  · have hq := ok_pos hok
    have h := hpq.trans hv.symm
    rw [qv_eq (by omega) (by omega)] at h
    have g1 := (ok_spec hok).2.2.2.2
    have d1 : q ∣ b := by
      have : q ∣ p * b := ⟨a, by rw [h, Int.mul_comm]⟩
      exact dvd_cop this (by rw [Int.gcd_comm]; exact g1)
    have d2 : b ∣ q := by
      have : b ∣ a * q := ⟨p, by rw [← h, Int.mul_comm]⟩
      exact dvd_cop this (by rw [Int.gcd_comm]; exact hgab)
    have hqd : q = b := Int.le_antisymm (Int.le_of_dvd hb0 d1) (Int.le_of_dvd hq d2)
    subst hqd
    have : p = a := Int.eq_of_mul_eq_mul_right (by omega) h
    subst this
    rw [if_pos hok]
  · intro h0
    split at h0
    · rename_i hok; rw [if_pos hok]; exact ⟨hok, hv⟩
    · simp at h0
  · intro h0
    split at h0
    · simp at h0
    · rename_i hok; rw [if_neg hok]
theorem qv_neg (n d : Int) : qv (-n) (-d) = qv n d := by
  unfold qv; rw [Rat.intCast_neg, Rat.intCast_neg]; grind
theorem red_spec {n d : Int} (hd : d ≠ 0) : (∀ p q, ok p q = true → qv p q = qv n d → red n d = (p, q, 0)) ∧ ((red n d).2.2 = 0 → ok (red n d).1 (red n d).2.1 = true ∧ qv (red n d).1 (red n d).2.1 = qv n d) ∧ ((red n d).2.2 ≠ 0 → red n d = (0, 0, 2)) := by
  unfold red
  split
  · have := red1_spec (n := -n) (d := -d) (by omega)
    rw [qv_neg] at this; exact this
  · exact red1_spec (by omega)
/-- What red is: the fraction of a value. -/
theorem red_congr {n d n' d' : Int} (hd : d ≠ 0) (hd' : d' ≠ 0) (h : qv n d = qv n' d') : red n d = red n' d' := by
  obtain ⟨a1, a2, a3⟩ := red_spec (n := n) hd
  obtain ⟨b1, b2, b3⟩ := red_spec (n := n') hd'
  by_cases h1 : (red n d).2.2 = 0
  · have := b1 _ _ (a2 h1).1 ((a2 h1).2.trans h)
    rw [this, ← h1]
  · by_cases h2 : (red n' d').2.2 = 0
    · have := a1 _ _ (b2 h2).1 ((b2 h2).2.trans h.symm)
      rw [this] at h1; simp at h1
    · rw [a3 h1, b3 h2]
def cmpI (x y : Int) : Int := if x < y then -1 else if y < x then 1 else 0
def addF (a b c d : Int) : FE := opr (ok a b && ok c d) (opF 101 a b c d)
def mulF (a b c d : Int) : FE := opr (ok a b && ok c d) (opF 79 a b c d)
def subF (a b c d : Int) : FE := opr (ok a b && ok c d) (opF 89 a b c d)
def cmpF (a b c d : Int) : Int := if ok a b && ok c d then cmpI (a * d) (c * b) else 0
def ok2 (a b c d : Int) : Bool := ok a b && ok c d
/-- x is the fraction with the value v, if there is one. -/
structure Spec (v : Rat) (x : FE) : Prop where
  val : x.2.2 = 0 → ok x.1 x.2.1 = true ∧ qv x.1 x.2.1 = v
  unq : ∀ p q, ok p q = true → qv p q = v → x = (p, q, 0)
  bad : x.2.2 ≠ 0 → x = (0, 0, 2)
theorem red_is {n d : Int} (hd : d ≠ 0) {v : Rat} (hv : v = qv n d) : Spec v (red n d) := by
  obtain ⟨h1, h2, h3⟩ := red_spec (n := n) hd
  subst hv; exact ⟨h2, h1, h3⟩
theorem Spec.eq {v : Rat} {x y : FE} (h : Spec v x) (k : Spec v y) : x = y := by
  by_cases h0 : x.2.2 = 0
  · obtain ⟨h1, h2⟩ := h.val h0
    rw [k.unq _ _ h1 h2, ← h0]
  · by_cases k0 : y.2.2 = 0
    · obtain ⟨h1, h2⟩ := k.val k0
      rw [h.unq _ _ h1 h2] at h0; simp at h0
    · rw [h.bad h0, k.bad k0]
theorem den_ne {n d : Int} (h : ok n d = true) : d ≠ 0 := by have := ok_pos h; omega
theorem addF_is {a b c d : Int} (h1 : ok a b = true) (h2 : ok c d = true) : Spec (qv a b + qv c d) (addF a b c d) := by
  have hb := den_ne h1
  have hd := den_ne h2
  have hbd : b * d ≠ 0 := Int.mul_ne_zero hb hd
  simp only [addF, opr, h1, h2, opF, Bool.and_self, if_true, hbd, if_false]
  refine red_is hbd ?_
  have := cast_ne hb
  have := cast_ne hd
  simp only [qv, Rat.intCast_add, Rat.intCast_mul]; grind
theorem subF_is {a b c d : Int} (h1 : ok a b = true) (h2 : ok c d = true) : Spec (qv a b - qv c d) (subF a b c d) := by
  have hb := den_ne h1
  have hd := den_ne h2
  have hbd : b * d ≠ 0 := Int.mul_ne_zero hb hd
  simp only [subF, opr, h1, h2, opF, Bool.and_self, if_true, hbd, if_false]
  refine red_is hbd ?_
  have := cast_ne hb
  have := cast_ne hd
  simp only [qv, Rat.intCast_sub, Rat.intCast_mul]; grind
theorem mulF_is {a b c d : Int} (h1 : ok a b = true) (h2 : ok c d = true) : Spec (qv a b * qv c d) (mulF a b c d) := by
  have hb := den_ne h1
  have hd := den_ne h2
  have hbd : b * d ≠ 0 := Int.mul_ne_zero hb hd
  simp only [mulF, opr, h1, h2, opF, Bool.and_self, if_true, hbd, if_false]
  refine red_is hbd ?_
  have := cast_ne hb
  have := cast_ne hd
  simp only [qv, Rat.intCast_mul]; grind
theorem opr_bad {a b c d : Int} (h : ¬ (ok a b = true ∧ ok c d = true)) (x : Int × Int) : opr (ok a b && ok c d) x = (0, 0, 1) := by
  have : (ok a b && ok c d) = false := by cases h1 : ok a b <;> cases h2 : ok c d <;> simp_all
  simp [opr, this]
theorem addF_comm (a b c d : Int) : addF a b c d = addF c d a b := by
  by_cases h : ok a b = true ∧ ok c d = true
  · have := addF_is h.2 h.1
    rw [Rat.add_comm] at this
    exact (addF_is h.1 h.2).eq this
  · rw [addF, addF, opr_bad h, opr_bad (fun k => h ⟨k.2, k.1⟩)]
theorem mulF_comm (a b c d : Int) : mulF a b c d = mulF c d a b := by
  by_cases h : ok a b = true ∧ ok c d = true
  · have := mulF_is h.2 h.1
    rw [Rat.mul_comm] at this
    exact (mulF_is h.1 h.2).eq this
  · rw [mulF, mulF, opr_bad h, opr_bad (fun k => h ⟨k.2, k.1⟩)]
theorem brec (x y : Bool) : (Bool.rec false x y : Bool) = (y && x) := by cases y <;> rfl
theorem addF_ok {a b c d : Int} (h : (addF a b c d).2.2 = 0) : ok a b = true ∧ ok c d = true := by
  refine Classical.byContradiction fun k => ?_
  rw [addF, opr_bad k] at h; simp at h
theorem mulF_ok {a b c d : Int} (h : (mulF a b c d).2.2 = 0) : ok a b = true ∧ ok c d = true := by
  refine Classical.byContradiction fun k => ?_
  rw [mulF, opr_bad k] at h; simp at h
theorem subF_ok {a b c d : Int} (h : (subF a b c d).2.2 = 0) : ok a b = true ∧ ok c d = true := by
  refine Classical.byContradiction fun k => ?_
  rw [subF, opr_bad k] at h; simp at h
theorem qv_ne {c d : Int} (hc : c ≠ 0) (hd : d ≠ 0) : qv c d ≠ 0 := by
  have := cast_ne hc
  have := cast_ne hd
  unfold qv; grind
theorem sub_back {a b c d : Int} (h : (addF a b c d).2.2 = 0) : subF (addF a b c d).1 (addF a b c d).2.1 c d = (a, b, 0) := by
  obtain ⟨h1, h2⟩ := addF_ok h
  obtain ⟨h3, h4⟩ := (addF_is h1 h2).val h
  refine (subF_is h3 h2).unq a b h1 ?_
  rw [h4]; grind
theorem distrib {a b c d e f : Int} (h1 : (addF a b c d).2.2 = 0) (h2 : (mulF (addF a b c d).1 (addF a b c d).2.1 e f).2.2 = 0) (h3 : (mulF a b e f).2.2 = 0) (h4 : (mulF c d e f).2.2 = 0)
    (h5 : (addF (mulF a b e f).1 (mulF a b e f).2.1 (mulF c d e f).1 (mulF c d e f).2.1).2.2 = 0) :
    mulF (addF a b c d).1 (addF a b c d).2.1 e f = addF (mulF a b e f).1 (mulF a b e f).2.1 (mulF c d e f).1 (mulF c d e f).2.1 := by
  obtain ⟨o1, o2⟩ := addF_ok h1
  obtain ⟨p1, p2⟩ := (addF_is o1 o2).val h1
  obtain ⟨_, o3⟩ := mulF_ok h3
  obtain ⟨q1, q2⟩ := (mulF_is o1 o3).val h3
  obtain ⟨r1, r2⟩ := (mulF_is o2 o3).val h4
  have s1 := mulF_is p1 o3
  have s2 := addF_is q1 r1
  rw [p2] at s1
  rw [q2, r2] at s2
  rw [show (qv a b + qv c d) * qv e f = qv a b * qv e f + qv c d * qv e f by grind] at s1
  exact s1.eq s2
end Go.Proofs


set_option autoImplicit false
namespace Go.Proofs
open Go Go.Ab
set_option maxHeartbeats 1000000
set_option maxRecDepth 100000
variable {G : IH}
def hunF (n d : Int) : Int := if ok n d then hun n d else 0
def flF (n d : Int) : Int := if ok n d then n / d else 0
abbrev fe' (x : FE) : DV := .tup [fr x.1 x.2.1, di x.2.2]
def orc3 : Oracle
  | 111, [di _] => some (db false)
  | 95, [di x, di y] => some (di (cmpI x y))
  | 77, [fr a b, fr c d] => some (.tup [di (cmpF a b c d), db (ok2 a b c d)])
  | 13, [fr a b, fr c d] => some (.tup [di (cmpF a b c d), db (ok2 a b c d)])
  | 82, [fr a b, fr c d] => some (fe (addF a b c d))
  | 46, [fr a b, fr c d] => some (fe (mulF a b c d))
  | 62, [fr a b, fr c d] => some (fe (subF a b c d))
  | 51, [fr n d] => some (.tup [di (hunF n d), db (ok n d)])
  | f, l => orc f l
theorem f82' (a b c d : Int) : FnOK Tryz.prog G 82 [fr a b, fr c d] (fe' (addF a b c d)) := f82 a b c d
theorem f46' (a b c d : Int) : FnOK Tryz.prog G 46 [fr a b, fr c d] (fe' (mulF a b c d)) := f46 a b c d
theorem f62' (a b c d : Int) : FnOK Tryz.prog G 62 [fr a b, fr c d] (fe' (subF a b c d)) := f62 a b c d
theorem f51' (n d : Int) : FnOK Tryz.prog G 51 [fr n d] (.tup [di (hunF n d), db (ok n d)]) := f51 n d
theorem f111 (x : Int) : FnOK Tryz.prog G 111 [di x] (db false) := by
  refine FnOK.walk (orc := orc3) (keep := []) follows Tryz.func111 rfl Tryz.call111 ?_
  refine of_eqH (b :=
    (((db (x != x)) : DV) = (db false))) (by kernel_rfl) ?_
  simp
theorem f95 (x y : Int) : FnOK Tryz.prog G 95 [di x, di y] (di (cmpI x y)) := by
  refine FnOK.walk (orc := orc3) (keep := []) follows Tryz.func95 rfl Tryz.call95 ?_
  refine of_eqH (b :=
    (FnOK Tryz.prog G 111 [(di x)] (db false) ∧
    (FnOK Tryz.prog G 111 [(di y)] (db false) ∧
    (((false = true) →
    (((false = true) →
    (((di 0) : DV) = (di (cmpI x y)))) ∧
    ((false = false) →
    (((di (-1)) : DV) = (di (cmpI x y)))))) ∧
    ((false = false) →
    (((false = true) →
    (((di 1) : DV) = (di (cmpI x y)))) ∧
    ((false = false) →
    ((((decide (x < y)) = true) →
    (((di (-1)) : DV) = (di (cmpI x y)))) ∧
    (((decide (x < y)) = false) →
    ((((decide (x > y)) = true) →
    (((di 1) : DV) = (di (cmpI x y)))) ∧
    (((decide (x > y)) = false) →
    (((di 0) : DV) = (di (cmpI x y)))))))))))))) (by kernel_rfl) ?_
  simp only [f111, cmpI]
  grind
theorem f77 (a b c d : Int) : FnOK Tryz.prog G 77 [fr a b, fr c d] (.tup [di (cmpF a b c d), db (ok2 a b c d)]) := by
  refine FnOK.walk (orc := orc3) (keep := []) follows Tryz.func77 rfl Tryz.call77 ?_
  refine of_eqH (b :=
    ((FnOK Tryz.prog G 43 [(.agg [(di a), (di b)])] (db (ok a b)) ∧
    (((!!ok a b) = true) →
    FnOK Tryz.prog G 43 [(.agg [(di c), (di d)])] (db (ok c d)))) ∧
    ((((!ok a b || !ok c d) = true) →
    (((.tup [(di 0), (db false)]) : DV) = (.tup [(di (cmpF a b c d)), (db (ok2 a b c d))]))) ∧
    (((!ok a b || !ok c d) = false) →
    (((I64 (a * d)) ∧
    ((I64 (c * b)) ∧
    FnOK Tryz.prog G 95 [(di (a * d)), (di (c * b))] (di (cmpI (a * d) (c * b))))) ∧
    (((.tup [(di (cmpI (a * d) (c * b))), (db true)]) : DV) = (.tup [(di (cmpF a b c d)), (db (ok2 a b c d))]))))))) (by kernel_rfl) ?_
  simp only [f43, f95, cmpF, ok2]
  cases h1 : ok a b with
  | false => simp
  | true => cases h2 : ok c d with
    | false => simp
    | true =>
      have m0 := mb _ _ (okb h1).1 (okb h2).2
      have m1 := mb _ _ (okb h2).1 (okb h1).2
      simp [I64]; omega
theorem f13 (a b c d : Int) : FnOK Tryz.prog G 13 [fr a b, fr c d] (.tup [di (cmpF a b c d), db (ok2 a b c d)]) := by
  refine FnOK.walk (orc := orc3) (keep := []) follows Tryz.func13 rfl Tryz.call13 ?_
  refine of_eqH (b :=
    ((FnOK Tryz.prog G 36 [(.agg [(di a), (di b)])] (db (ok a b)) ∧
    (((!!ok a b) = true) →
    FnOK Tryz.prog G 36 [(.agg [(di c), (di d)])] (db (ok c d)))) ∧
    ((((!ok a b || !ok c d) = true) →
    (((.tup [(di 0), (db false)]) : DV) = (.tup [(di (cmpF a b c d)), (db (ok2 a b c d))]))) ∧
    (((!ok a b || !ok c d) = false) →
    (((I64 (a * d)) ∧
    (I64 (c * b))) ∧
    ((((decide (a * d < c * b)) = true) →
    (((.tup [(di (-1)), (db true)]) : DV) = (.tup [(di (cmpF a b c d)), (db (ok2 a b c d))]))) ∧
    (((decide (a * d < c * b)) = false) →
    ((((decide (a * d > c * b)) = true) →
    (((.tup [(di 1), (db true)]) : DV) = (.tup [(di (cmpF a b c d)), (db (ok2 a b c d))]))) ∧
    (((decide (a * d > c * b)) = false) →
    (((.tup [(di 0), (db true)]) : DV) = (.tup [(di (cmpF a b c d)), (db (ok2 a b c d))]))))))))))) (by kernel_rfl) ?_
  simp only [f36, cmpF, ok2]
  cases h1 : ok a b with
  | false => simp
  | true => cases h2 : ok c d with
    | false => simp
    | true =>
      have m0 := mb _ _ (okb h1).1 (okb h2).2
      have m1 := mb _ _ (okb h2).1 (okb h1).2
      simp [I64, cmpI]; grind
end Go.Proofs


set_option autoImplicit false
namespace Go.Proofs
open Go Go.Ab
set_option maxHeartbeats 1000000
set_option maxRecDepth 100000
variable {G : IH}
abbrev PL := List (Int × Int)
abbrev pg (L : PL) (i : Nat) : Int × Int := L.getD i (0, 0)
abbrev ls (L : PL) : DV := .slc 2 L.length (fun i => fr (pg L i).1 (pg L i).2)
def allOk (L : PL) : Bool := L.all fun x => ok x.1 x.2
def sumL (add : Int → Int → Int → Int → FE) : PL → Int × Int → FE
  | [], o => (o.1, o.2, 0)
  | x :: l, o => if (add o.1 o.2 x.1 x.2).2.2 = 0 then sumL add l ((add o.1 o.2 x.1 x.2).1, (add o.1 o.2 x.1 x.2).2.1) else (0, 0, (add o.1 o.2 x.1 x.2).2.2)
def orcS (add sub mul div : Int → Int → Int → Int → FE) (sum : PL → FE) (best : PL → Int) (cmp : Int → Int → Int → Int → Int) (vb : Int → Int → Bool) : Oracle
  | 43, [fr a b] => some (db (vb a b))
  | 36, [fr a b] => some (db (vb a b))
  | 72, [fr a b] => some (fr (if vb a b then -a else a) b)
  | 82, [fr a b, fr c d] => some (fe' (add a b c d))
  | 46, [fr a b, fr c d] => some (fe' (mul a b c d))
  | 62, [fr a b, fr c d] => some (fe' (sub a b c d))
  | 28, [fr a b, fr c d] => some (fe' (add a b c d))
  | 40, [fr a b, fr c d] => some (fe' (sub a b c d))
  | 49, [fr a b, fr c d] => some (fe' (mul a b c d))
  | 58, [di a, di b] => some (fe (red a b))
  | 77, [fr a b, fr c d] => some (.tup [di (cmp a b c d), db (vb a b && vb c d)])
  | 13, [fr a b, fr c d] => some (.tup [di (cmp a b c d), db (vb a b && vb c d)])
  | f, l => orc3 f l
def bestTo (cmp : Int → Int → Int → Int → Int) (L : PL) : Nat → Int
  | 0 => -1
  | k + 1 => if bestTo cmp L k < 0 then k else if cmp (pg L k).1 (pg L k).2 (pg L (bestTo cmp L k).toNat).1 (pg L (bestTo cmp L k).toNat).2 ≤ 0 then bestTo cmp L k else k
def sumS (add : Int → Int → Int → Int → FE) (L : PL) : FE := if L.length ≤ 1024 ∧ allOk L = true then sumL add L (0, 1) else (0, 0, 1)
def bestS (cmp : Int → Int → Int → Int → Int) (L : PL) : Int := if allOk L then bestTo cmp L L.length else -1
def orcL (L : PL) : Oracle
  | 81, [_] => some (db (allOk L))
  | 50, [_] => some (fe' (sumS addF L))
  | 52, [_] => some (fe' (sumS addF L))
  | f, l => orcS addF subF mulF mulF (fun _ => (0,0,0)) (fun _ => 0) cmpF ok f l
theorem f72 (a b : Int) : FnOK Tryz.prog G 72 [fr a b] (fr (if ok a b then -a else a) b) := by
  refine FnOK.walk (orc := orcS addF subF mulF mulF (fun _ => (0,0,0)) (fun _ => 0) cmpF ok) (keep := []) follows Tryz.func72 rfl Tryz.call72 ?_
  refine of_eqH (b :=
    (FnOK Tryz.prog G 36 [(.agg [(di a), (di b)])] (db (ok a b)) ∧
    ((((!ok a b) = true) →
    (((.agg [(di a), (di b)]) : DV) = (fr (if ok a b = true then -a else a) b))) ∧
    (((!ok a b) = false) →
    ((R64 a) ∧
    (((.agg [(di (-a)), (di b)]) : DV) = (fr (if ok a b = true then -a else a) b))))))) (by kernel_rfl) ?_
  refine ⟨f36 a b, fun h => ?_, fun h => ?_⟩
  · have h : ok a b = false := by simpa using h
    simp [h]
  · have h : ok a b = true := by simpa using h
    have := ok_spec h
    exact ⟨⟨by omega, by omega⟩, by simp [h]⟩
theorem f28 (a b c d : Int) : FnOK Tryz.prog G 28 [fr a b, fr c d] (fe' (addF a b c d)) := by
  refine FnOK.walk (orc := orcS addF subF mulF mulF (fun _ => (0,0,0)) (fun _ => 0) cmpF ok) (keep := []) follows Tryz.func28 rfl Tryz.call28 ?_
  refine of_eqH (b :=
    ((FnOK Tryz.prog G 36 [(.agg [(di a), (di b)])] (db (ok a b)) ∧
    (((!!ok a b) = true) →
    FnOK Tryz.prog G 36 [(.agg [(di c), (di d)])] (db (ok c d)))) ∧
    ((((!ok a b || !ok c d) = true) →
    (((.tup [(.agg [(di 0), (di 0)]), (di 1)]) : DV) = (fe' (addF a b c d)))) ∧
    (((!ok a b || !ok c d) = false) →
    (((I64 (a * d)) ∧
    ((I64 (c * b)) ∧
    ((I64 (a * d + c * b)) ∧
    ((I64 (b * d)) ∧
    FnOK Tryz.prog G 58 [(di (a * d + c * b)), (di (b * d))] (.tup [(.agg [(di (Prod.fst (red (a * d + c * b) (b * d)))), (di (Prod.fst (Prod.snd (red (a * d + c * b) (b * d)))))]), (di (Prod.snd (Prod.snd (red (a * d + c * b) (b * d)))))]))))) ∧
    (((.tup [(.agg [(di (Prod.fst (red (a * d + c * b) (b * d)))), (di (Prod.fst (Prod.snd (red (a * d + c * b) (b * d)))))]), (di (Prod.snd (Prod.snd (red (a * d + c * b) (b * d)))))]) : DV) = (fe' (addF a b c d)))))))) (by kernel_rfl) ?_
  simp only [f36]
  cases h1 : ok a b with
  | false => simp [addF, opr, h1]
  | true => cases h2 : ok c d with
    | false => simp [addF, opr, h1, h2]
    | true =>
      have r := opR101 h1 h2
      simp only [opF] at r
      have hbd : b * d ≠ 0 := Int.mul_ne_zero (den_ne h1) (den_ne h2)
      have m0 := mb _ _ (okb h1).1 (okb h2).2
      have m1 := mb _ _ (okb h2).1 (okb h1).2
      have m2 := mb _ _ (okb h1).2 (okb h2).2
      have hc := f58 (G := G) (a * d + c * b) (b * d) hbd r.1 r.2
      simp only [addF, opr, h1, h2, opF, hbd]
      exact ⟨by simp, by simp, fun _ => ⟨⟨⟨by omega, by omega⟩, ⟨by omega, by omega⟩, ⟨by omega, by omega⟩, ⟨by omega, by omega⟩, hc⟩, rfl⟩⟩
theorem subF_neg (a b c d : Int) : addF a b (if ok c d = true then -c else c) d = subF a b c d := by
  cases h2 : ok c d with
  | false => simp [addF, subF, opr, h2]
  | true =>
    have h3 : ok (-c) d = true := by
      have := ok_spec h2
      simp [ok]; omega
    cases h1 : ok a b with
    | false => simp [addF, subF, opr, h1]
    | true =>
      simp only [addF, subF, opr, h1, h2, h3, opF, if_true]
      rw [show a * d + -c * b = a * d - c * b by rw [Int.neg_mul]; rfl]
theorem f40 (a b c d : Int) : FnOK Tryz.prog G 40 [fr a b, fr c d] (fe' (subF a b c d)) := by
  refine FnOK.walk (orc := orcS addF subF mulF mulF (fun _ => (0,0,0)) (fun _ => 0) cmpF ok) (keep := []) follows Tryz.func40 rfl Tryz.call40 ?_
  refine of_eqH (b :=
    ((FnOK Tryz.prog G 72 [(.agg [(di c), (di d)])] (.agg [(di (if ok c d = true then -c else c)), (di d)]) ∧
    FnOK Tryz.prog G 28 [(.agg [(di a), (di b)]), (.agg [(di (if ok c d = true then -c else c)), (di d)])] (.tup [(.agg [(di (Prod.fst (addF a b (if ok c d = true then -c else c) d))), (di (Prod.fst (Prod.snd (addF a b (if ok c d = true then -c else c) d))))]), (di (Prod.snd (Prod.snd (addF a b (if ok c d = true then -c else c) d))))])) ∧
    (((.tup [(.agg [(di (Prod.fst (addF a b (if ok c d = true then -c else c) d))), (di (Prod.fst (Prod.snd (addF a b (if ok c d = true then -c else c) d))))]), (di (Prod.snd (Prod.snd (addF a b (if ok c d = true then -c else c) d))))]) : DV) = (fe' (subF a b c d))))) (by kernel_rfl) ?_
  have h := f28 (G := G) a b (if ok c d = true then -c else c) d
  rw [subF_neg] at h ⊢
  exact ⟨⟨f72 c d, h⟩, rfl⟩
theorem f49 (a b c d : Int) : FnOK Tryz.prog G 49 [fr a b, fr c d] (fe' (mulF a b c d)) := by
  refine FnOK.walk (orc := orcS addF subF mulF mulF (fun _ => (0,0,0)) (fun _ => 0) cmpF ok) (keep := []) follows Tryz.func49 rfl Tryz.call49 ?_
  refine of_eqH (b :=
    ((FnOK Tryz.prog G 36 [(.agg [(di a), (di b)])] (db (ok a b)) ∧
    (((!!ok a b) = true) →
    FnOK Tryz.prog G 36 [(.agg [(di c), (di d)])] (db (ok c d)))) ∧
    ((((!ok a b || !ok c d) = true) →
    (((.tup [(.agg [(di 0), (di 0)]), (di 1)]) : DV) = (fe' (mulF a b c d)))) ∧
    (((!ok a b || !ok c d) = false) →
    (((I64 (a * c)) ∧
    ((I64 (b * d)) ∧
    FnOK Tryz.prog G 58 [(di (a * c)), (di (b * d))] (.tup [(.agg [(di (Prod.fst (red (a * c) (b * d)))), (di (Prod.fst (Prod.snd (red (a * c) (b * d)))))]), (di (Prod.snd (Prod.snd (red (a * c) (b * d)))))]))) ∧
    (((.tup [(.agg [(di (Prod.fst (red (a * c) (b * d)))), (di (Prod.fst (Prod.snd (red (a * c) (b * d)))))]), (di (Prod.snd (Prod.snd (red (a * c) (b * d)))))]) : DV) = (fe' (mulF a b c d)))))))) (by kernel_rfl) ?_
  simp only [f36]
  cases h1 : ok a b with
  | false => simp [mulF, opr, h1]
  | true => cases h2 : ok c d with
    | false => simp [mulF, opr, h1, h2]
    | true =>
      have r := opR79 h1 h2
      simp only [opF] at r
      have hbd : b * d ≠ 0 := Int.mul_ne_zero (den_ne h1) (den_ne h2)
      have hc := f58 (G := G) (a * c) (b * d) hbd r.1 r.2
      have r1 := r.1
      have r2 := r.2
      simp only [R64] at r1 r2
      simp only [mulF, opr, h1, h2, opF, hbd]
      exact ⟨by simp, by simp, fun _ => ⟨⟨⟨by omega, by omega⟩, ⟨by omega, by omega⟩, hc⟩, rfl⟩⟩
def SF59 (L : PL) (k : Nat) : AS := ⟨regs 15 [(0, .d (ls L)), (2, vb false), (5, .d (ls L)), (6, vi L.length), (7, vi k)], []⟩
theorem allOk_take {L : PL} {k : Nat} (hk : k < L.length) (h : allOk (L.take k) = true) : allOk (L.take (k + 1)) = ok (pg L k).1 (pg L k).2 := by
  unfold allOk at *
  rw [List.take_add_one, List.all_append, h]
  simp [List.getElem?_eq_getElem hk, List.getD]
theorem allOk_bad {L : PL} {k : Nat} (hk : k < L.length) (h : ok (pg L k).1 (pg L k).2 = false) : allOk L = false := by
  cases ha : allOk L with
  | false => rfl
  | true =>
    have := List.all_eq_true.1 ha _ (List.getElem_mem hk)
    simp [List.getD, List.getElem?_eq_getElem hk] at h
    rw [h] at this; cases this
theorem f81 (L : PL) (hL : L.length ≤ 1000000) : FnOK Tryz.prog G 81 [ls L] (db (allOk L)) := by
  refine FnOK.walk (orc := orcL L) (keep := []) follows Tryz.func81 rfl Tryz.call81 ?_
  refine of_eqH (b :=
    AWP Tryz.prog G [.code (cAt (bodyOf Tryz.f81) [1, 0, 1, 0]), (.blk 0), .code (cAt (bodyOf Tryz.f81) [1, 1])] ⟨regs 15 [(0, (.d (.slc 2 (List.length L) (fun i => fr (Prod.fst (pg L i)) (Prod.snd (pg L i)))))), (2, (vb false)), (5, (.d (.slc 2 (List.length L) (fun i => fr (Prod.fst (pg L i)) (Prod.snd (pg L i)))))), (6, (vi ((↑(List.length L) : Int)))), (7, (vi 0))], []⟩ (Ret Tryz.prog Tryz.f81 (db (allOk L)))) (by kernel_rfl) ?_
  refine AWP.loop (c := cAt (bodyOf Tryz.f81) [1, 0, 1, 0, 0]) (by kernel_rfl) (SF59 L) (fun k => k ≤ L.length ∧ allOk (L.take k) = true) (fun k => L.length - k) 0 ?_ ⟨Nat.zero_le _, rfl⟩ ?_
  · refine of_eq (b :=
    (((((.d (.slc 2 (List.length L) (fun i => fr (Prod.fst (pg L i)) (Prod.snd (pg L i))))) : AV) = (.d (.slc 2 (List.length L) (fun i => fr (Prod.fst (pg L i)) (Prod.snd (pg L i)))))) ∧
    ((((vb false) : AV) = (vb false)) ∧
    ((((.d (.slc 2 (List.length L) (fun i => fr (Prod.fst (pg L i)) (Prod.snd (pg L i))))) : AV) = (.d (.slc 2 (List.length L) (fun i => fr (Prod.fst (pg L i)) (Prod.snd (pg L i)))))) ∧
    ((((vi ((↑(List.length L) : Int))) : AV) = (vi ((↑(List.length L) : Int)))) ∧
    ((((vi 0) : AV) = (vi 0)) ∧
    True))))) ∧
    True)) (by kernel_rfl) ?_
    exact ⟨⟨rfl, rfl, rfl, rfl, rfl, trivial⟩, trivial⟩
  · rintro k ⟨hk, hI⟩
    refine walk (orc := orcL L) (keep := []) (cuts := []) (n := 1000) follows ?_
    refine of_eqH (b :=
      ((((decide ((↑k : Int) < (↑(List.length L) : Int))) = true) →
      ((((0 : Int) ≤ (↑k : Int)) ∧
      ((↑k : Int) < (↑(List.length L) : Int))) ∧
      (FnOK Tryz.prog G 43 [(.agg [(di (Prod.fst (pg L (Int.toNat (↑k : Int))))), (di (Prod.snd (pg L (Int.toNat (↑k : Int)))))])] (db (ok (Prod.fst (pg L (Int.toNat (↑k : Int)))) (Prod.snd (pg L (Int.toNat (↑k : Int)))))) ∧
      ((((!ok (Prod.fst (pg L (Int.toNat (↑k : Int)))) (Prod.snd (pg L (Int.toNat (↑k : Int))))) = true) →
      (((db false) : DV) = (db (allOk L)))) ∧
      (((!ok (Prod.fst (pg L (Int.toNat (↑k : Int)))) (Prod.snd (pg L (Int.toNat (↑k : Int))))) = false) →
      ((I64 ((↑k : Int) + (1 : Int))) ∧
      Again (SF59 L) (fun k => k ≤ List.length L ∧ allOk (List.take k L) = true) (fun k => List.length L - k) k ⟨[(.d (.slc 2 (List.length L) (fun i => fr (Prod.fst (pg L i)) (Prod.snd (pg L i))))), .any, (vb false), .any, (.box 4 0), (.d (.slc 2 (List.length L) (fun i => fr (Prod.fst (pg L i)) (Prod.snd (pg L i))))), (vi ((↑(List.length L) : Int))), (vi ((↑k : Int) + (1 : Int))), (vb (decide ((↑k : Int) < (↑(List.length L) : Int)))), (.d (.ptr [(di (Prod.fst (pg L (Int.toNat (↑k : Int))))), (di (Prod.snd (pg L (Int.toNat (↑k : Int)))))])), (.d (.agg [(di (Prod.fst (pg L (Int.toNat (↑k : Int))))), (di (Prod.snd (pg L (Int.toNat (↑k : Int)))))])), (.d (.agg [(di (Prod.fst (pg L (Int.toNat (↑k : Int))))), (di (Prod.snd (pg L (Int.toNat (↑k : Int)))))])), (vb (ok (Prod.fst (pg L (Int.toNat (↑k : Int)))) (Prod.snd (pg L (Int.toNat (↑k : Int)))))), (vb (!ok (Prod.fst (pg L (Int.toNat (↑k : Int)))) (Prod.snd (pg L (Int.toNat (↑k : Int)))))), (vi ((↑k : Int) + (1 : Int)))], [(4, [(vi (Prod.fst (pg L (Int.toNat (↑k : Int))))), (vi (Prod.snd (pg L (Int.toNat (↑k : Int)))))])]⟩)))))) ∧
      (((decide ((↑k : Int) < (↑(List.length L) : Int))) = false) →
      AWP Tryz.prog G [.code (cAt (bodyOf Tryz.f81) [1, 1])] ⟨regs 15 [(0, (.d (.slc 2 (List.length L) (fun i => fr (Prod.fst (pg L i)) (Prod.snd (pg L i)))))), (2, (vb false)), (5, (.d (.slc 2 (List.length L) (fun i => fr (Prod.fst (pg L i)) (Prod.snd (pg L i)))))), (6, (vi ((↑(List.length L) : Int)))), (7, (vi ((↑k : Int)))), (8, (vb (decide ((↑k : Int) < (↑(List.length L) : Int)))))], []⟩ (Ret Tryz.prog Tryz.f81 (db (allOk L)))))) (by kernel_rfl) ?_
    refine ⟨fun h => ⟨⟨by omega, by simpa using h⟩, f43 _ _, fun h2 => ?_, fun h2 => ⟨⟨by omega, by omega⟩, Again.mk (k + 1) ?_ ⟨?_, ?_⟩ ?_⟩⟩, fun h => ?_⟩
    · rw [allOk_bad (k := k) (by simpa using h) (by simpa using h2)]
    · refine of_eq (b :=
      (((((.d (.slc 2 (List.length L) (fun i => fr (Prod.fst (pg L i)) (Prod.snd (pg L i))))) : AV) = (.d (.slc 2 (List.length L) (fun i => fr (Prod.fst (pg L i)) (Prod.snd (pg L i)))))) ∧
      ((((vb false) : AV) = (vb false)) ∧
      ((((.d (.slc 2 (List.length L) (fun i => fr (Prod.fst (pg L i)) (Prod.snd (pg L i))))) : AV) = (.d (.slc 2 (List.length L) (fun i => fr (Prod.fst (pg L i)) (Prod.snd (pg L i)))))) ∧
      ((((vi ((↑(List.length L) : Int))) : AV) = (vi ((↑(List.length L) : Int)))) ∧
      ((((vi ((↑k : Int) + (1 : Int))) : AV) = (vi ((↑(k + (1 : Nat)) : Int)))) ∧
      True))))) ∧
      True)) (by kernel_rfl) ?_
      exact ⟨⟨rfl, rfl, rfl, rfl, rfl, trivial⟩, trivial⟩
    · simp at h; omega
    · rw [allOk_take (by simpa using h) hI]; simpa using h2
    · simp at h; omega
    · have : k = L.length := by simp at h; omega
      subst this
      rw [List.take_length] at hI
      refine walk (orc := orcL L) (keep := []) (cuts := []) (n := 1000) follows ?_
      refine of_eqH (b :=
        (((db true) : DV) = (db (allOk L)))) (by kernel_rfl) ?_
      rw [hI]
end Go.Proofs


set_option autoImplicit false
namespace Go.Proofs
open Go Go.Ab
set_option maxHeartbeats 1000000
set_option maxRecDepth 100000
variable {G : IH}
theorem sum_step {L : PL} {k : Nat} {p q : Int} (hk : k < L.length) : sumL addF (L.drop k) (p, q) = if (addF p q (pg L k).1 (pg L k).2).2.2 = 0 then sumL addF (L.drop (k + 1)) ((addF p q (pg L k).1 (pg L k).2).1, (addF p q (pg L k).1 (pg L k).2).2.1) else (0, 0, (addF p q (pg L k).1 (pg L k).2).2.2) := by
  rw [List.drop_eq_getElem_cons hk, sumL]
  simp [List.getD, List.getElem?_eq_getElem hk]
theorem sum_end {L : PL} {k : Nat} {x : Int × Int} (hk : ¬ k < L.length) : sumL addF (L.drop k) x = (x.1, x.2, 0) := by
  rw [List.drop_eq_nil_of_le (by omega)]; rfl
noncomputable def S32 (L : PL) (x : Nat × Int × Int) : AS := ⟨regs Tryz.f50.ntmps [(0, .d (ls L)), (2, .box 2 0), (3, vi 0), (4, .box 4 0), (18, .d (ls L)), (19, vi L.length), (20, vi x.1)], [(4, [vi x.2.1, vi x.2.2]), (2, [vi 0, vi 0])]⟩
theorem f50 (L : PL) (hL : L.length ≤ 1000000) : FnOK Tryz.prog G 50 [ls L] (fe' (sumS addF L)) := by
  refine FnOK.walk (orc := orcL L) (keep := []) follows Tryz.func50 rfl Tryz.call50 ?_
  refine of_eqH (b :=
    ((((!decide ((↑(List.length L) : Int) > (1024 : Int))) = true) →
    FnOK Tryz.prog G 81 [(.slc 2 (List.length L) (fun i => fr (Prod.fst (pg L i)) (Prod.snd (pg L i))))] (db (allOk L))) ∧
    ((((decide ((↑(List.length L) : Int) > (1024 : Int)) || !allOk L) = true) →
    (((.tup [(.agg [(di 0), (di 0)]), (di 1)]) : DV) = (fe' (sumS addF L)))) ∧
    (((decide ((↑(List.length L) : Int) > (1024 : Int)) || !allOk L) = false) →
    AWP Tryz.prog G [.code (cAt (bodyOf Tryz.f50) [1, 1, 1, 0, 1, 0]), (.blk 0), .code (cAt (bodyOf Tryz.f50) [1, 1, 1, 1])] ⟨regs 36 [(0, (.d (.slc 2 (List.length L) (fun i => fr (Prod.fst (pg L i)) (Prod.snd (pg L i)))))), (2, (.box 2 0)), (3, (vi 0)), (4, (.box 4 0)), (8, (.d (.slc 2 (List.length L) (fun i => fr (Prod.fst (pg L i)) (Prod.snd (pg L i)))))), (9, (vi ((↑(List.length L) : Int)))), (10, (vb (decide ((↑(List.length L) : Int) > (1024 : Int))))), (11, (vb (decide ((↑(List.length L) : Int) > (1024 : Int))))), (15, (vb (decide ((↑(List.length L) : Int) > (1024 : Int)) || !allOk L))), (17, (.d (.agg [(di 0), (di 1)]))), (18, (.d (.slc 2 (List.length L) (fun i => fr (Prod.fst (pg L i)) (Prod.snd (pg L i)))))), (19, (vi ((↑(List.length L) : Int)))), (20, (vi 0))], [(4, [(vi 0), (vi 1)]), (2, [(vi 0), (vi 0)])]⟩ (Ret Tryz.prog Tryz.f50 (fe' (sumS addF L))))))) (by kernel_rfl) ?_
  refine ⟨fun _ => f81 L hL, fun h => ?_, fun h => ?_⟩
  · rw [sumS, if_neg]
    intro hh; rw [hh.2] at h; simp at h; omega
  · have hS : sumS addF L = sumL addF L (0, 1) := by
      rw [sumS, if_pos]
      have : (L.length : Int) ≤ 1024 ∧ allOk L = true := by simpa using h
      exact ⟨by omega, this.2⟩
    rw [hS]
    refine AWP.loop (c := cAt (bodyOf Tryz.f50) [1, 1, 1, 0, 1, 0, 0]) (by kernel_rfl) (S32 L) (fun x => x.1 ≤ L.length ∧ sumL addF (L.drop x.1) x.2 = sumL addF L (0, 1)) (fun x => L.length - x.1) (0, 0, 1) ?_ ⟨Nat.zero_le _, rfl⟩ ?_
    · refine of_eq (b :=
      (((((.d (.slc 2 (List.length L) (fun i => fr (Prod.fst (pg L i)) (Prod.snd (pg L i))))) : AV) = (.d (.slc 2 (List.length L) (fun i => fr (Prod.fst (pg L i)) (Prod.snd (pg L i)))))) ∧
      ((((.box 2 0) : AV) = (.box 2 0)) ∧
      ((((vi 0) : AV) = (vi 0)) ∧
      ((((.box 4 0) : AV) = (.box 4 0)) ∧
      ((((.d (.slc 2 (List.length L) (fun i => fr (Prod.fst (pg L i)) (Prod.snd (pg L i))))) : AV) = (.d (.slc 2 (List.length L) (fun i => fr (Prod.fst (pg L i)) (Prod.snd (pg L i)))))) ∧
      ((((vi ((↑(List.length L) : Int))) : AV) = (vi ((↑(List.length L) : Int)))) ∧
      ((((vi 0) : AV) = (vi 0)) ∧
      True))))))) ∧
      ((((some [(vi 0), (vi 1)]) : (Option (List AV))) = (some [(vi 0), (vi 1)])) ∧
      ((((some [(vi 0), (vi 0)]) : (Option (List AV))) = (some [(vi 0), (vi 0)])) ∧
      True)))) (by kernel_rfl) ?_
      exact ⟨⟨rfl, rfl, rfl, rfl, rfl, rfl, rfl, trivial⟩, rfl, rfl, trivial⟩
    · rintro ⟨k, p, q⟩ ⟨hk, hI⟩
      simp only at hk hI
      refine walk (orc := orcL L) (keep := []) (cuts := []) (n := 1000) follows ?_
      refine of_eqH (b :=
        ((((decide ((↑k : Int) < (↑(List.length L) : Int))) = true) →
        ((((0 : Int) ≤ (↑k : Int)) ∧
        ((↑k : Int) < (↑(List.length L) : Int))) ∧
        (FnOK Tryz.prog G 82 [(.agg [(di p), (di q)]), (.agg [(di (Prod.fst (pg L (Int.toNat (↑k : Int))))), (di (Prod.snd (pg L (Int.toNat (↑k : Int)))))])] (.tup [(.agg [(di (Prod.fst (addF p q (Prod.fst (pg L (Int.toNat (↑k : Int)))) (Prod.snd (pg L (Int.toNat (↑k : Int))))))), (di (Prod.fst (Prod.snd (addF p q (Prod.fst (pg L (Int.toNat (↑k : Int)))) (Prod.snd (pg L (Int.toNat (↑k : Int))))))))]), (di (Prod.snd (Prod.snd (addF p q (Prod.fst (pg L (Int.toNat (↑k : Int)))) (Prod.snd (pg L (Int.toNat (↑k : Int))))))))]) ∧
        ((((Prod.snd (Prod.snd (addF p q (Prod.fst (pg L (Int.toNat (↑k : Int)))) (Prod.snd (pg L (Int.toNat (↑k : Int)))))) != (0 : Int)) = true) →
        (((.tup [(.agg [(di 0), (di 0)]), (di (Prod.snd (Prod.snd (addF p q (Prod.fst (pg L (Int.toNat (↑k : Int)))) (Prod.snd (pg L (Int.toNat (↑k : Int))))))))]) : DV) = (fe' (sumL addF L ((0 : Int), (1 : Int)))))) ∧
        (((Prod.snd (Prod.snd (addF p q (Prod.fst (pg L (Int.toNat (↑k : Int)))) (Prod.snd (pg L (Int.toNat (↑k : Int)))))) != (0 : Int)) = false) →
        ((I64 ((↑k : Int) + (1 : Int))) ∧
        Again (S32 L) (fun x => Prod.fst x ≤ List.length L ∧ sumL addF (List.drop (Prod.fst x) L) (Prod.snd x) = sumL addF L ((0 : Int), (1 : Int))) (fun x => List.length L - Prod.fst x) ((k, p, q)) ⟨regs 36 [(0, (.d (.slc 2 (List.length L) (fun i => fr (Prod.fst (pg L i)) (Prod.snd (pg L i)))))), (2, (.box 2 0)), (3, (vi 0)), (4, (.box 4 0)), (6, (.box 6 0)), (7, (vi (Prod.snd (Prod.snd (addF p q (Prod.fst (pg L (Int.toNat (↑k : Int)))) (Prod.snd (pg L (Int.toNat (↑k : Int))))))))), (18, (.d (.slc 2 (List.length L) (fun i => fr (Prod.fst (pg L i)) (Prod.snd (pg L i)))))), (19, (vi ((↑(List.length L) : Int)))), (20, (vi ((↑k : Int) + (1 : Int)))), (21, (vb (decide ((↑k : Int) < (↑(List.length L) : Int))))), (22, (.d (.ptr [(di (Prod.fst (pg L (Int.toNat (↑k : Int))))), (di (Prod.snd (pg L (Int.toNat (↑k : Int)))))]))), (23, (.d (.agg [(di (Prod.fst (pg L (Int.toNat (↑k : Int))))), (di (Prod.snd (pg L (Int.toNat (↑k : Int)))))]))), (24, (.d (.tup [(.agg [(di (Prod.fst (addF p q (Prod.fst (pg L (Int.toNat (↑k : Int)))) (Prod.snd (pg L (Int.toNat (↑k : Int))))))), (di (Prod.fst (Prod.snd (addF p q (Prod.fst (pg L (Int.toNat (↑k : Int)))) (Prod.snd (pg L (Int.toNat (↑k : Int))))))))]), (di (Prod.snd (Prod.snd (addF p q (Prod.fst (pg L (Int.toNat (↑k : Int)))) (Prod.snd (pg L (Int.toNat (↑k : Int))))))))]))), (25, (.d (.agg [(di p), (di q)]))), (26, (.d (.agg [(di (Prod.fst (pg L (Int.toNat (↑k : Int))))), (di (Prod.snd (pg L (Int.toNat (↑k : Int)))))]))), (27, (.d (.tup [(.agg [(di (Prod.fst (addF p q (Prod.fst (pg L (Int.toNat (↑k : Int)))) (Prod.snd (pg L (Int.toNat (↑k : Int))))))), (di (Prod.fst (Prod.snd (addF p q (Prod.fst (pg L (Int.toNat (↑k : Int)))) (Prod.snd (pg L (Int.toNat (↑k : Int))))))))]), (di (Prod.snd (Prod.snd (addF p q (Prod.fst (pg L (Int.toNat (↑k : Int)))) (Prod.snd (pg L (Int.toNat (↑k : Int))))))))]))), (28, (.d (.agg [(di (Prod.fst (addF p q (Prod.fst (pg L (Int.toNat (↑k : Int)))) (Prod.snd (pg L (Int.toNat (↑k : Int))))))), (di (Prod.fst (Prod.snd (addF p q (Prod.fst (pg L (Int.toNat (↑k : Int)))) (Prod.snd (pg L (Int.toNat (↑k : Int))))))))]))), (29, (vi (Prod.snd (Prod.snd (addF p q (Prod.fst (pg L (Int.toNat (↑k : Int)))) (Prod.snd (pg L (Int.toNat (↑k : Int))))))))), (30, (vi (Prod.snd (Prod.snd (addF p q (Prod.fst (pg L (Int.toNat (↑k : Int)))) (Prod.snd (pg L (Int.toNat (↑k : Int))))))))), (31, (vb (Prod.snd (Prod.snd (addF p q (Prod.fst (pg L (Int.toNat (↑k : Int)))) (Prod.snd (pg L (Int.toNat (↑k : Int)))))) != (0 : Int)))), (34, (vi ((↑k : Int) + (1 : Int))))], [(6, [(vi (Prod.fst (pg L (Int.toNat (↑k : Int))))), (vi (Prod.snd (pg L (Int.toNat (↑k : Int)))))]), (4, [(vi (Prod.fst (addF p q (Prod.fst (pg L (Int.toNat (↑k : Int)))) (Prod.snd (pg L (Int.toNat (↑k : Int))))))), (vi (Prod.fst (Prod.snd (addF p q (Prod.fst (pg L (Int.toNat (↑k : Int)))) (Prod.snd (pg L (Int.toNat (↑k : Int))))))))]), (2, [(vi 0), (vi 0)])]⟩)))))) ∧
        (((decide ((↑k : Int) < (↑(List.length L) : Int))) = false) →
        AWP Tryz.prog G [.code (cAt (bodyOf Tryz.f50) [1, 1, 1, 1])] ⟨regs 36 [(0, (.d (.slc 2 (List.length L) (fun i => fr (Prod.fst (pg L i)) (Prod.snd (pg L i)))))), (2, (.box 2 0)), (3, (vi 0)), (4, (.box 4 0)), (18, (.d (.slc 2 (List.length L) (fun i => fr (Prod.fst (pg L i)) (Prod.snd (pg L i)))))), (19, (vi ((↑(List.length L) : Int)))), (20, (vi ((↑k : Int)))), (21, (vb (decide ((↑k : Int) < (↑(List.length L) : Int)))))], [(4, [(vi p), (vi q)]), (2, [(vi 0), (vi 0)])]⟩ (Ret Tryz.prog Tryz.f50 (fe' (sumL addF L ((0 : Int), (1 : Int)))))))) (by kernel_rfl) ?_
      refine ⟨fun h => ?_, fun h => ?_⟩
      · have hlt : k < L.length := by simpa using h
        rw [sum_step hlt] at hI
        refine ⟨⟨by omega, by omega⟩, f82 .., fun h2 => ?_, fun h2 => ⟨⟨by omega, by omega⟩, Again.mk (k + 1, (addF p q (pg L k).1 (pg L k).2).1, (addF p q (pg L k).1 (pg L k).2).2.1) ?_ ⟨hlt, ?_⟩ (by simp only; omega)⟩⟩
        · rw [if_neg (by simpa using h2)] at hI
          rw [← hI]; rfl
        · refine of_eq (b :=
          (((((.d (.slc 2 (List.length L) (fun i => fr (Prod.fst (pg L i)) (Prod.snd (pg L i))))) : AV) = (.d (.slc 2 (List.length L) (fun i => fr (Prod.fst (pg L i)) (Prod.snd (pg L i)))))) ∧
          ((((.box 2 0) : AV) = (.box 2 0)) ∧
          ((((vi 0) : AV) = (vi 0)) ∧
          ((((.box 4 0) : AV) = (.box 4 0)) ∧
          ((((.d (.slc 2 (List.length L) (fun i => fr (Prod.fst (pg L i)) (Prod.snd (pg L i))))) : AV) = (.d (.slc 2 (List.length L) (fun i => fr (Prod.fst (pg L i)) (Prod.snd (pg L i)))))) ∧
          ((((vi ((↑(List.length L) : Int))) : AV) = (vi ((↑(List.length L) : Int)))) ∧
          ((((vi ((↑k : Int) + (1 : Int))) : AV) = (vi ((↑(k + (1 : Nat)) : Int)))) ∧
          True))))))) ∧
          ((((some [(vi (Prod.fst (addF p q (Prod.fst (pg L (Int.toNat (↑k : Int)))) (Prod.snd (pg L (Int.toNat (↑k : Int))))))), (vi (Prod.fst (Prod.snd (addF p q (Prod.fst (pg L (Int.toNat (↑k : Int)))) (Prod.snd (pg L (Int.toNat (↑k : Int))))))))]) : (Option (List AV))) = (some [(vi (Prod.fst (addF p q (Prod.fst (pg L k)) (Prod.snd (pg L k))))), (vi (Prod.fst (Prod.snd (addF p q (Prod.fst (pg L k)) (Prod.snd (pg L k))))))])) ∧
          ((((some [(vi 0), (vi 0)]) : (Option (List AV))) = (some [(vi 0), (vi 0)])) ∧
          True)))) (by kernel_rfl) ?_
          exact ⟨⟨rfl, rfl, rfl, rfl, rfl, rfl, rfl, trivial⟩, rfl, rfl, trivial⟩
        · rw [if_pos (by simpa using h2)] at hI
          exact hI
      · have hlt : ¬ k < L.length := by simpa using h
        rw [sum_end hlt] at hI
        refine walk (orc := orcL L) (keep := []) (cuts := []) (n := 1000) follows ?_
        refine of_eqH (b :=
          (((.tup [(.agg [(di p), (di q)]), (di 0)]) : DV) = (fe' (sumL addF L ((0 : Int), (1 : Int)))))) (by kernel_rfl) ?_
        rw [← hI]
theorem best_lt (L : PL) : ∀ k : Nat, bestTo cmpF L k < k ∧ -1 ≤ bestTo cmpF L k
  | 0 => by simp [bestTo]
  | k + 1 => by
    have := best_lt L k
    simp only [bestTo]; split
    · omega
    · split <;> omega
theorem cmp_self (a b : Int) : cmpF a b a b = 0 := by
  unfold cmpF cmpI; split <;> simp
noncomputable def S33 (L : PL) (k : Nat) : AS := ⟨regs Tryz.f52.ntmps [(0, .d (ls L)), (2, .box 2 0), (3, vi 0), (4, vi k)], [(2, [vi 0, vi 0])]⟩
noncomputable def S33b (L : PL) (x : Nat × Int × Int) : AS := ⟨regs Tryz.f52.ntmps [(0, .d (ls L)), (2, .box 2 0), (3, vi 0), (5, .box 5 0), (6, vi x.1)], [(5, [vi x.2.1, vi x.2.2]), (2, [vi 0, vi 0])]⟩
theorem f52 (L : PL) (hL : L.length ≤ 1000000) : FnOK Tryz.prog G 52 [ls L] (fe' (sumS addF L)) := by
  refine FnOK.walk (orc := orcL L) (keep := []) follows Tryz.func52 rfl Tryz.call52 ?_
  refine of_eqH (b :=
    ((((decide ((↑(List.length L) : Int) > (1024 : Int))) = true) →
    (((.tup [(.agg [(di 0), (di 0)]), (di 1)]) : DV) = (fe' (sumS addF L)))) ∧
    (((decide ((↑(List.length L) : Int) > (1024 : Int))) = false) →
    AWP Tryz.prog G [.code (cAt (bodyOf Tryz.f52) [1, 1, 0, 1, 0]), (.blk 0), .code (cAt (bodyOf Tryz.f52) [1, 1, 1])] ⟨regs 48 [(0, (.d (.slc 2 (List.length L) (fun i => fr (Prod.fst (pg L i)) (Prod.snd (pg L i)))))), (2, (.box 2 0)), (3, (vi 0)), (4, (vi 0)), (9, (.d (.slc 2 (List.length L) (fun i => fr (Prod.fst (pg L i)) (Prod.snd (pg L i)))))), (10, (vi ((↑(List.length L) : Int)))), (11, (vb (decide ((↑(List.length L) : Int) > (1024 : Int)))))], [(2, [(vi 0), (vi 0)])]⟩ (Ret Tryz.prog Tryz.f52 (fe' (sumS addF L)))))) (by kernel_rfl) ?_
  refine ⟨fun h => ?_, fun h0 => ?_⟩
  · rw [sumS, if_neg]
    intro hh; simp at h; omega
  · refine AWP.loop (c := cAt (bodyOf Tryz.f52) [1, 1, 0, 1, 0, 0]) (by kernel_rfl) (S33 L) (fun x => x ≤ L.length ∧ allOk (L.take x) = true) (fun x => L.length - x) 0 ?_ ⟨Nat.zero_le _, rfl⟩ ?_
    · refine of_eq (b :=
      (((((.d (.slc 2 (List.length L) (fun i => fr (Prod.fst (pg L i)) (Prod.snd (pg L i))))) : AV) = (.d (.slc 2 (List.length L) (fun i => fr (Prod.fst (pg L i)) (Prod.snd (pg L i)))))) ∧
      ((((.box 2 0) : AV) = (.box 2 0)) ∧
      ((((vi 0) : AV) = (vi 0)) ∧
      ((((vi 0) : AV) = (vi 0)) ∧
      True)))) ∧
      ((((some [(vi 0), (vi 0)]) : (Option (List AV))) = (some [(vi 0), (vi 0)])) ∧
      True))) (by kernel_rfl) ?_
      exact ⟨⟨rfl, rfl, rfl, rfl, trivial⟩, rfl, trivial⟩
    · rintro k ⟨hk, hI⟩
      refine walk (orc := orcL L) (keep := []) (cuts := []) (n := 1000) follows ?_
      refine of_eqH (b :=
        ((((decide ((↑k : Int) < (↑(List.length L) : Int))) = true) →
        (((((0 : Int) ≤ (↑k : Int)) ∧
        ((↑k : Int) < (↑(List.length L) : Int))) ∧
        FnOK Tryz.prog G 36 [(.agg [(di (Prod.fst (pg L (Int.toNat (↑k : Int))))), (di (Prod.snd (pg L (Int.toNat (↑k : Int)))))])] (db (ok (Prod.fst (pg L (Int.toNat (↑k : Int)))) (Prod.snd (pg L (Int.toNat (↑k : Int))))))) ∧
        ((((!ok (Prod.fst (pg L (Int.toNat (↑k : Int)))) (Prod.snd (pg L (Int.toNat (↑k : Int))))) = true) →
        (((.tup [(.agg [(di 0), (di 0)]), (di 1)]) : DV) = (fe' (sumS addF L)))) ∧
        (((!ok (Prod.fst (pg L (Int.toNat (↑k : Int)))) (Prod.snd (pg L (Int.toNat (↑k : Int))))) = false) →
        ((I64 ((↑k : Int) + (1 : Int))) ∧
        Again (S33 L) (fun x => x ≤ List.length L ∧ allOk (List.take x L) = true) (fun x => List.length L - x) k ⟨regs 48 [(0, (.d (.slc 2 (List.length L) (fun i => fr (Prod.fst (pg L i)) (Prod.snd (pg L i)))))), (2, (.box 2 0)), (3, (vi 0)), (4, (vi ((↑k : Int) + (1 : Int)))), (13, (vi ((↑k : Int)))), (14, (.d (.slc 2 (List.length L) (fun i => fr (Prod.fst (pg L i)) (Prod.snd (pg L i)))))), (15, (vi ((↑(List.length L) : Int)))), (16, (vb (decide ((↑k : Int) < (↑(List.length L) : Int))))), (17, (vi ((↑k : Int)))), (18, (vi ((↑k : Int) + (1 : Int)))), (19, (.d (.slc 2 (List.length L) (fun i => fr (Prod.fst (pg L i)) (Prod.snd (pg L i)))))), (20, (vi ((↑k : Int)))), (21, (.d (.ptr [(di (Prod.fst (pg L (Int.toNat (↑k : Int))))), (di (Prod.snd (pg L (Int.toNat (↑k : Int)))))]))), (22, (.d (.agg [(di (Prod.fst (pg L (Int.toNat (↑k : Int))))), (di (Prod.snd (pg L (Int.toNat (↑k : Int)))))]))), (23, (vb (ok (Prod.fst (pg L (Int.toNat (↑k : Int)))) (Prod.snd (pg L (Int.toNat (↑k : Int))))))), (24, (vb (!ok (Prod.fst (pg L (Int.toNat (↑k : Int)))) (Prod.snd (pg L (Int.toNat (↑k : Int)))))))], [(2, [(vi 0), (vi 0)])]⟩))))) ∧
        (((decide ((↑k : Int) < (↑(List.length L) : Int))) = false) →
        AWP Tryz.prog G [.code (cAt (bodyOf Tryz.f52) [1, 1, 1])] ⟨regs 48 [(0, (.d (.slc 2 (List.length L) (fun i => fr (Prod.fst (pg L i)) (Prod.snd (pg L i)))))), (2, (.box 2 0)), (3, (vi 0)), (4, (vi ((↑k : Int)))), (13, (vi ((↑k : Int)))), (14, (.d (.slc 2 (List.length L) (fun i => fr (Prod.fst (pg L i)) (Prod.snd (pg L i)))))), (15, (vi ((↑(List.length L) : Int)))), (16, (vb (decide ((↑k : Int) < (↑(List.length L) : Int)))))], [(2, [(vi 0), (vi 0)])]⟩ (Ret Tryz.prog Tryz.f52 (fe' (sumS addF L)))))) (by kernel_rfl) ?_
      refine ⟨fun h => ?_, fun h => ?_⟩
      · have hlt : k < L.length := by simpa using h
        refine ⟨⟨⟨by omega, by omega⟩, f36 ..⟩, fun h2 => ?_, fun h2 => ⟨⟨by omega, by omega⟩, Again.mk (k + 1) ?_ ⟨hlt, ?_⟩ (by omega)⟩⟩
        · rw [sumS, if_neg]
          rw [allOk_bad hlt (by simpa using h2)]; simp
        · refine of_eq (b :=
          (((((.d (.slc 2 (List.length L) (fun i => fr (Prod.fst (pg L i)) (Prod.snd (pg L i))))) : AV) = (.d (.slc 2 (List.length L) (fun i => fr (Prod.fst (pg L i)) (Prod.snd (pg L i)))))) ∧
          ((((.box 2 0) : AV) = (.box 2 0)) ∧
          ((((vi 0) : AV) = (vi 0)) ∧
          ((((vi ((↑k : Int) + (1 : Int))) : AV) = (vi ((↑(k + (1 : Nat)) : Int)))) ∧
          True)))) ∧
          ((((some [(vi 0), (vi 0)]) : (Option (List AV))) = (some [(vi 0), (vi 0)])) ∧
          True))) (by kernel_rfl) ?_
          exact ⟨⟨rfl, rfl, rfl, rfl, trivial⟩, rfl, trivial⟩
        · rw [allOk_take hlt hI]; simpa using h2
      · have hk' : k = L.length := by have h' := of_decide_eq_false h; omega
        subst hk'
        rw [List.take_length] at hI
        have hS : sumS addF L = sumL addF L (0, 1) := by
          rw [sumS, if_pos]
          exact ⟨by have h' := of_decide_eq_false h0; omega, hI⟩
        refine walk (orc := orcL L) (keep := []) (cuts := []) (n := 1000) follows ?_
        refine of_eqH (b :=
          AWP Tryz.prog G [.code (cAt (bodyOf Tryz.f52) [1, 1, 1, 1, 0, 1, 0]), (.blk 2), .code (cAt (bodyOf Tryz.f52) [1, 1, 1, 1, 1])] ⟨regs 48 [(0, (.d (.slc 2 (List.length L) (fun i => fr (Prod.fst (pg L i)) (Prod.snd (pg L i)))))), (2, (.box 2 0)), (3, (vi 0)), (4, (vi ((↑(List.length L) : Int)))), (5, (.box 5 0)), (6, (vi 0)), (13, (vi ((↑(List.length L) : Int)))), (14, (.d (.slc 2 (List.length L) (fun i => fr (Prod.fst (pg L i)) (Prod.snd (pg L i)))))), (15, (vi ((↑(List.length L) : Int)))), (16, (vb (decide ((↑(List.length L) : Int) < (↑(List.length L) : Int))))), (26, (.d (.agg [(di 0), (di 1)])))], [(5, [(vi 0), (vi 1)]), (2, [(vi 0), (vi 0)])]⟩ (Ret Tryz.prog Tryz.f52 (fe' (sumS addF L)))) (by kernel_rfl) ?_
        rw [hS]
        refine AWP.loop (c := cAt (bodyOf Tryz.f52) [1, 1, 1, 1, 0, 1, 0, 0]) (by kernel_rfl) (S33b L) (fun x => x.1 ≤ L.length ∧ sumL addF (L.drop x.1) x.2 = sumL addF L (0, 1)) (fun x => L.length - x.1) (0, 0, 1) ?_ ⟨Nat.zero_le _, rfl⟩ ?_
        · refine of_eq (b :=
          (((((.d (.slc 2 (List.length L) (fun i => fr (Prod.fst (pg L i)) (Prod.snd (pg L i))))) : AV) = (.d (.slc 2 (List.length L) (fun i => fr (Prod.fst (pg L i)) (Prod.snd (pg L i)))))) ∧
          ((((.box 2 0) : AV) = (.box 2 0)) ∧
          ((((vi 0) : AV) = (vi 0)) ∧
          ((((.box 5 0) : AV) = (.box 5 0)) ∧
          ((((vi 0) : AV) = (vi 0)) ∧
          True))))) ∧
          ((((some [(vi 0), (vi 1)]) : (Option (List AV))) = (some [(vi 0), (vi 1)])) ∧
          ((((some [(vi 0), (vi 0)]) : (Option (List AV))) = (some [(vi 0), (vi 0)])) ∧
          True)))) (by kernel_rfl) ?_
          exact ⟨⟨rfl, rfl, rfl, rfl, rfl, trivial⟩, rfl, rfl, trivial⟩
        · rintro ⟨k, p, q⟩ ⟨hk, hI⟩
          simp only at hk hI
          refine walk (orc := orcL L) (keep := []) (cuts := []) (n := 1000) follows ?_
          refine of_eqH (b :=
            ((((decide ((↑k : Int) < (↑(List.length L) : Int))) = true) →
            (((((0 : Int) ≤ (↑k : Int)) ∧
            ((↑k : Int) < (↑(List.length L) : Int))) ∧
            FnOK Tryz.prog G 28 [(.agg [(di p), (di q)]), (.agg [(di (Prod.fst (pg L (Int.toNat (↑k : Int))))), (di (Prod.snd (pg L (Int.toNat (↑k : Int)))))])] (.tup [(.agg [(di (Prod.fst (addF p q (Prod.fst (pg L (Int.toNat (↑k : Int)))) (Prod.snd (pg L (Int.toNat (↑k : Int))))))), (di (Prod.fst (Prod.snd (addF p q (Prod.fst (pg L (Int.toNat (↑k : Int)))) (Prod.snd (pg L (Int.toNat (↑k : Int))))))))]), (di (Prod.snd (Prod.snd (addF p q (Prod.fst (pg L (Int.toNat (↑k : Int)))) (Prod.snd (pg L (Int.toNat (↑k : Int))))))))])) ∧
            ((((Prod.snd (Prod.snd (addF p q (Prod.fst (pg L (Int.toNat (↑k : Int)))) (Prod.snd (pg L (Int.toNat (↑k : Int)))))) != (0 : Int)) = true) →
            (((.tup [(.agg [(di 0), (di 0)]), (di (Prod.snd (Prod.snd (addF p q (Prod.fst (pg L (Int.toNat (↑k : Int)))) (Prod.snd (pg L (Int.toNat (↑k : Int))))))))]) : DV) = (fe' (sumL addF L ((0 : Int), (1 : Int)))))) ∧
            (((Prod.snd (Prod.snd (addF p q (Prod.fst (pg L (Int.toNat (↑k : Int)))) (Prod.snd (pg L (Int.toNat (↑k : Int)))))) != (0 : Int)) = false) →
            ((I64 ((↑k : Int) + (1 : Int))) ∧
            Again (S33b L) (fun x => Prod.fst x ≤ List.length L ∧ sumL addF (List.drop (Prod.fst x) L) (Prod.snd x) = sumL addF L ((0 : Int), (1 : Int))) (fun x => List.length L - Prod.fst x) ((k, p, q)) ⟨regs 48 [(0, (.d (.slc 2 (List.length L) (fun i => fr (Prod.fst (pg L i)) (Prod.snd (pg L i)))))), (2, (.box 2 0)), (3, (vi 0)), (5, (.box 5 0)), (6, (vi ((↑k : Int) + (1 : Int)))), (7, (.box 7 0)), (8, (vi (Prod.snd (Prod.snd (addF p q (Prod.fst (pg L (Int.toNat (↑k : Int)))) (Prod.snd (pg L (Int.toNat (↑k : Int))))))))), (27, (vi ((↑k : Int)))), (28, (.d (.slc 2 (List.length L) (fun i => fr (Prod.fst (pg L i)) (Prod.snd (pg L i)))))), (29, (vi ((↑(List.length L) : Int)))), (30, (vb (decide ((↑k : Int) < (↑(List.length L) : Int))))), (31, (vi ((↑k : Int)))), (32, (vi ((↑k : Int) + (1 : Int)))), (33, (.d (.tup [(.agg [(di (Prod.fst (addF p q (Prod.fst (pg L (Int.toNat (↑k : Int)))) (Prod.snd (pg L (Int.toNat (↑k : Int))))))), (di (Prod.fst (Prod.snd (addF p q (Prod.fst (pg L (Int.toNat (↑k : Int)))) (Prod.snd (pg L (Int.toNat (↑k : Int))))))))]), (di (Prod.snd (Prod.snd (addF p q (Prod.fst (pg L (Int.toNat (↑k : Int)))) (Prod.snd (pg L (Int.toNat (↑k : Int))))))))]))), (34, (.d (.agg [(di p), (di q)]))), (35, (.d (.slc 2 (List.length L) (fun i => fr (Prod.fst (pg L i)) (Prod.snd (pg L i)))))), (36, (vi ((↑k : Int)))), (37, (.d (.ptr [(di (Prod.fst (pg L (Int.toNat (↑k : Int))))), (di (Prod.snd (pg L (Int.toNat (↑k : Int)))))]))), (38, (.d (.agg [(di (Prod.fst (pg L (Int.toNat (↑k : Int))))), (di (Prod.snd (pg L (Int.toNat (↑k : Int)))))]))), (39, (.d (.tup [(.agg [(di (Prod.fst (addF p q (Prod.fst (pg L (Int.toNat (↑k : Int)))) (Prod.snd (pg L (Int.toNat (↑k : Int))))))), (di (Prod.fst (Prod.snd (addF p q (Prod.fst (pg L (Int.toNat (↑k : Int)))) (Prod.snd (pg L (Int.toNat (↑k : Int))))))))]), (di (Prod.snd (Prod.snd (addF p q (Prod.fst (pg L (Int.toNat (↑k : Int)))) (Prod.snd (pg L (Int.toNat (↑k : Int))))))))]))), (40, (.d (.agg [(di (Prod.fst (addF p q (Prod.fst (pg L (Int.toNat (↑k : Int)))) (Prod.snd (pg L (Int.toNat (↑k : Int))))))), (di (Prod.fst (Prod.snd (addF p q (Prod.fst (pg L (Int.toNat (↑k : Int)))) (Prod.snd (pg L (Int.toNat (↑k : Int))))))))]))), (41, (vi (Prod.snd (Prod.snd (addF p q (Prod.fst (pg L (Int.toNat (↑k : Int)))) (Prod.snd (pg L (Int.toNat (↑k : Int))))))))), (42, (vi (Prod.snd (Prod.snd (addF p q (Prod.fst (pg L (Int.toNat (↑k : Int)))) (Prod.snd (pg L (Int.toNat (↑k : Int))))))))), (43, (vb (Prod.snd (Prod.snd (addF p q (Prod.fst (pg L (Int.toNat (↑k : Int)))) (Prod.snd (pg L (Int.toNat (↑k : Int)))))) != (0 : Int)))), (46, (.d (.agg [(di (Prod.fst (addF p q (Prod.fst (pg L (Int.toNat (↑k : Int)))) (Prod.snd (pg L (Int.toNat (↑k : Int))))))), (di (Prod.fst (Prod.snd (addF p q (Prod.fst (pg L (Int.toNat (↑k : Int)))) (Prod.snd (pg L (Int.toNat (↑k : Int))))))))])))], [(7, [(vi (Prod.fst (addF p q (Prod.fst (pg L (Int.toNat (↑k : Int)))) (Prod.snd (pg L (Int.toNat (↑k : Int))))))), (vi (Prod.fst (Prod.snd (addF p q (Prod.fst (pg L (Int.toNat (↑k : Int)))) (Prod.snd (pg L (Int.toNat (↑k : Int))))))))]), (5, [(vi (Prod.fst (addF p q (Prod.fst (pg L (Int.toNat (↑k : Int)))) (Prod.snd (pg L (Int.toNat (↑k : Int))))))), (vi (Prod.fst (Prod.snd (addF p q (Prod.fst (pg L (Int.toNat (↑k : Int)))) (Prod.snd (pg L (Int.toNat (↑k : Int))))))))]), (2, [(vi 0), (vi 0)])]⟩))))) ∧
            (((decide ((↑k : Int) < (↑(List.length L) : Int))) = false) →
            AWP Tryz.prog G [.code (cAt (bodyOf Tryz.f52) [1, 1, 1, 1, 1])] ⟨regs 48 [(0, (.d (.slc 2 (List.length L) (fun i => fr (Prod.fst (pg L i)) (Prod.snd (pg L i)))))), (2, (.box 2 0)), (3, (vi 0)), (5, (.box 5 0)), (6, (vi ((↑k : Int)))), (27, (vi ((↑k : Int)))), (28, (.d (.slc 2 (List.length L) (fun i => fr (Prod.fst (pg L i)) (Prod.snd (pg L i)))))), (29, (vi ((↑(List.length L) : Int)))), (30, (vb (decide ((↑k : Int) < (↑(List.length L) : Int)))))], [(5, [(vi p), (vi q)]), (2, [(vi 0), (vi 0)])]⟩ (Ret Tryz.prog Tryz.f52 (fe' (sumL addF L ((0 : Int), (1 : Int)))))))) (by kernel_rfl) ?_
          refine ⟨fun h => ?_, fun h => ?_⟩
          · have hlt : k < L.length := by simpa using h
            rw [sum_step hlt] at hI
            refine ⟨⟨⟨by omega, by omega⟩, f28 ..⟩, fun h2 => ?_, fun h2 => ⟨⟨by omega, by omega⟩, Again.mk (k + 1, (addF p q (pg L k).1 (pg L k).2).1, (addF p q (pg L k).1 (pg L k).2).2.1) ?_ ⟨hlt, ?_⟩ (by simp only; omega)⟩⟩
            · rw [if_neg (by simpa using h2)] at hI
              rw [← hI]; rfl
            · refine of_eq (b :=
              (((((.d (.slc 2 (List.length L) (fun i => fr (Prod.fst (pg L i)) (Prod.snd (pg L i))))) : AV) = (.d (.slc 2 (List.length L) (fun i => fr (Prod.fst (pg L i)) (Prod.snd (pg L i)))))) ∧
              ((((.box 2 0) : AV) = (.box 2 0)) ∧
              ((((vi 0) : AV) = (vi 0)) ∧
              ((((.box 5 0) : AV) = (.box 5 0)) ∧
              ((((vi ((↑k : Int) + (1 : Int))) : AV) = (vi ((↑(k + (1 : Nat)) : Int)))) ∧
              True))))) ∧
              ((((some [(vi (Prod.fst (addF p q (Prod.fst (pg L (Int.toNat (↑k : Int)))) (Prod.snd (pg L (Int.toNat (↑k : Int))))))), (vi (Prod.fst (Prod.snd (addF p q (Prod.fst (pg L (Int.toNat (↑k : Int)))) (Prod.snd (pg L (Int.toNat (↑k : Int))))))))]) : (Option (List AV))) = (some [(vi (Prod.fst (addF p q (Prod.fst (pg L k)) (Prod.snd (pg L k))))), (vi (Prod.fst (Prod.snd (addF p q (Prod.fst (pg L k)) (Prod.snd (pg L k))))))])) ∧
              ((((some [(vi 0), (vi 0)]) : (Option (List AV))) = (some [(vi 0), (vi 0)])) ∧
              True)))) (by kernel_rfl) ?_
              exact ⟨⟨rfl, rfl, rfl, rfl, rfl, trivial⟩, rfl, rfl, trivial⟩
            · rw [if_pos (by simpa using h2)] at hI
              exact hI
          · have hlt : ¬ k < L.length := by simpa using h
            rw [sum_end hlt] at hI
            refine walk (orc := orcL L) (keep := []) (cuts := []) (n := 1000) follows ?_
            refine of_eqH (b :=
              (((.tup [(.agg [(di p), (di q)]), (di 0)]) : DV) = (fe' (sumL addF L ((0 : Int), (1 : Int)))))) (by kernel_rfl) ?_
            rw [← hI]
end Go.Proofs
