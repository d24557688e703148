import Derived.Test.YthijempdiheabaaDoorAb15
import Derived.Test.YthijempdiheabaaDoorFb
import Derived.Test.YthijempdiheabaaDoorF2
set_option autoImplicit false
namespace Go.Proofs
open Go Go.Ab
set_option maxHeartbeats 1000000
set_option maxRecDepth 100000
variable {G : IH}
@[match_pattern] abbrev fn (k : Nat) : DV := .con (.func (.func k) #[] #[])
/-- The fraction of a numerator and a denominator of an operation. -/
def opr (okk : Bool) (x : Int × Int) : FE := if okk then (if x.2 = 0 then (0, 0, 2) else red x.1 x.2) else (0, 0, 1)
def opF (k : Nat) (a b c d : Int) : Int × Int := match k with
  | 52 => (a * d + c * b, b * d)
  | 53 => (a * c, b * d)
  | 54 => (a * d - c * b, b * d)
  | _ => (a * d, b * c)
def orc2 : Oracle
  | 52, [fr a b, fr c d] => some (.tup [di (opF 52 a b c d).1, di (opF 52 a b c d).2])
  | 53, [fr a b, fr c d] => some (.tup [di (opF 53 a b c d).1, di (opF 53 a b c d).2])
  | 54, [fr a b, fr c d] => some (.tup [di (opF 54 a b c d).1, di (opF 54 a b c d).2])
  | 55, [fr a b, fr c d] => some (.tup [di (opF 55 a b c d).1, di (opF 55 a b c d).2])
  | 51, [fn k] => some (.clo (.func 65) [] [.ptr [fn k]])
  | 65, [fr a b, fr c d, .ptr [fn k]] => some (fe (opr (ok a b && ok c d) (opF k a b c d)))
  | f, l => orc f l
theorem mb {x y : Int} (A B : Nat) (hx : -(A : Int) ≤ x ∧ x ≤ A) (hy : -(B : Int) ≤ y ∧ y ≤ B) : -((A * B : Nat) : Int) ≤ x * y ∧ x * y ≤ ((A * B : Nat) : Int) := by
  have h1 : x.natAbs ≤ A := by omega
  have h2 : y.natAbs ≤ B := by omega
  have h3 := Nat.mul_le_mul h1 h2
  rw [← Int.natAbs_mul] at h3
  omega
theorem f51 (k : Nat) : FnOK Tryd.prog G 51 [fn k] (.clo (.func 65) [] [.ptr [fn k]]) := by
  refine FnOK.walk (orc := orc2) (keep := []) follows Tryd.func51 rfl Tryd.call51 ?_
  refine of_eqH (b :=
    (((.clo (.func ((65 : Nat))) [] [(.ptr [(.con (.func (.func k) ⟨[]⟩ ⟨[]⟩))])]) : DV) = (.clo (.func ((65 : FuncId))) [] [(.ptr [(fn k)])]))) (by kernel_rfl) ?_
  rfl
theorem okb {n d : Int} (h : ok n d = true) : (-((1000000000 : Nat) : Int) ≤ n ∧ n ≤ ((1000000000 : Nat) : Int)) ∧ (-((1000000 : Nat) : Int) ≤ d ∧ d ≤ ((1000000 : Nat) : Int)) := by
  have := ok_spec h; omega
theorem f52 (a b c d : Int) (h1 : ok a b = true) (h2 : ok c d = true) : FnOK Tryd.prog G 52 [fr a b, fr c d] (.tup [di (opF 52 a b c d).1, di (opF 52 a b c d).2]) := by
  refine FnOK.walk (orc := orc2) (keep := []) follows Tryd.func52 rfl Tryd.call52 ?_
  refine of_eqH (b :=
    (((I64 (a * d)) ∧
    ((I64 (c * b)) ∧
    ((I64 (a * d + c * b)) ∧
    (I64 (b * d))))) ∧
    (((.tup [(.con (.int .i64 (a * d + c * b))), (.con (.int .i64 (b * d)))]) : DV) = (.tup [(di (Prod.fst (opF (52 : Nat) a b c d))), (di (Prod.snd (opF (52 : Nat) a b c d)))])))) (by kernel_rfl) ?_
  have m0 := mb _ _ (okb h1).1 (okb h2).2
  have m1 := mb _ _ (okb h2).1 (okb h1).2
  have m2 := mb _ _ (okb h1).2 (okb h2).2
  exact ⟨⟨⟨by omega, by omega⟩, ⟨by omega, by omega⟩, ⟨by omega, by omega⟩, by omega, by omega⟩, rfl⟩
theorem opR52 {a b c d : Int} (h1 : ok a b = true) (h2 : ok c d = true) : R64 (opF 52 a b c d).1 ∧ R64 (opF 52 a b c d).2 := by
  have m0 := mb _ _ (okb h1).1 (okb h2).2
  have m1 := mb _ _ (okb h2).1 (okb h1).2
  have m2 := mb _ _ (okb h1).2 (okb h2).2
  simp only [opF]
  exact ⟨⟨by omega, by omega⟩, by omega, by omega⟩
theorem f65_52 (a b c d : Int) : FnOK Tryd.prog G 65 [fr a b, fr c d, .ptr [fn 52]] (fe (opr (ok a b && ok c d) (opF 52 a b c d))) := by
  refine FnOK.walk (orc := orc2) (keep := []) follows Tryd.func65 rfl Tryd.call65 ?_
  refine of_eqH (b :=
    ((FnOK Tryd.prog G ((15 : Nat)) [(.agg [(.con (.int .i64 a)), (.con (.int .i64 b))])] (.con (.bool (ok a b))) ∧
    (((!!ok a b) = true) →
    FnOK Tryd.prog G ((15 : Nat)) [(.agg [(.con (.int .i64 c)), (.con (.int .i64 d))])] (.con (.bool (ok c d))))) ∧
    ((((!ok a b || !ok c d) = true) →
    (((.tup [(.agg [(.con (.int .i64 ((0 : Int)))), (.con (.int .i64 ((0 : Int))))]), (.con (.int .i64 ((1 : Int))))]) : DV) = (fe (opr (ok a b && ok c d) (opF (52 : Nat) a b c d))))) ∧
    (((!ok a b || !ok c d) = false) →
    (FnOK Tryd.prog G ((52 : Nat)) [(.agg [(.con (.int .i64 a)), (.con (.int .i64 b))]), (.agg [(.con (.int .i64 c)), (.con (.int .i64 d))])] (.tup [(.con (.int .i64 (a * d + c * b))), (.con (.int .i64 (b * d)))]) ∧
    ((((b * d == (0 : Int)) = true) →
    (((.tup [(.agg [(.con (.int .i64 ((0 : Int)))), (.con (.int .i64 ((0 : Int))))]), (.con (.int .i64 ((2 : Int))))]) : DV) = (fe (opr (ok a b && ok c d) (opF (52 : Nat) a b c d))))) ∧
    (((b * d == (0 : Int)) = false) →
    (FnOK Tryd.prog G ((42 : Nat)) [(.con (.int .i64 (a * d + c * b))), (.con (.int .i64 (b * d)))] (.tup [(.agg [(.con (.int .i64 (Prod.fst (red (a * d + c * b) (b * d))))), (.con (.int .i64 (Prod.fst (Prod.snd (red (a * d + c * b) (b * d))))))]), (.con (.int .i64 (Prod.snd (Prod.snd (red (a * d + c * b) (b * d))))))]) ∧
    (((.tup [(.agg [(.con (.int .i64 (Prod.fst (red (a * d + c * b) (b * d))))), (.con (.int .i64 (Prod.fst (Prod.snd (red (a * d + c * b) (b * d))))))]), (.con (.int .i64 (Prod.snd (Prod.snd (red (a * d + c * b) (b * d))))))]) : DV) = (fe (opr (ok a b && ok c d) (opF (52 : Nat) a b c d)))))))))))) (by kernel_rfl) ?_
  refine ⟨⟨f15 a b, fun _ => f15 c d⟩, fun h => ?_, fun h => ?_⟩
  · have h : (ok a b && ok c d) = false := by cases ha : ok a b <;> cases hc : ok c d <;> simp_all
    rw [h]; rfl
  · have h1 : ok a b = true := by cases ha : ok a b <;> simp_all
    have h2 : ok c d = true := by cases ha : ok c d <;> simp_all
    rw [h1, h2]
    have hr := opR52 h1 h2
    refine ⟨f52 a b c d h1 h2, fun h => ?_, fun h => ⟨f42 _ _ (by simpa using h) hr.1 hr.2, ?_⟩⟩
    · simp only [opr, opF]; rw [if_pos (show (true && true) = true from rfl), if_pos (by simpa using h)]; rfl
    · simp only [opr, opF]; rw [if_pos (show (true && true) = true from rfl), if_neg (by simpa using h)]; rfl
theorem f21 (a b c d : Int) : FnOK Tryd.prog G 21 [fr a b, fr c d] (fe (opr (ok a b && ok c d) (opF 52 a b c d))) := by
  refine FnOK.walk (orc := orc2) (keep := []) follows Tryd.func21 rfl Tryd.call21 ?_
  refine of_eqH (b :=
    ((FnOK Tryd.prog G ((51 : Nat)) [(.con (.func (.func ((52 : Nat))) ⟨[]⟩ ⟨[]⟩))] (.clo (.func ((65 : FuncId))) [] [(.ptr [(.con (.func (.func ((52 : Nat))) ⟨[]⟩ ⟨[]⟩))])]) ∧
    FnOK Tryd.prog G ((65 : Nat)) [(.agg [(.con (.int .i64 a)), (.con (.int .i64 b))]), (.agg [(.con (.int .i64 c)), (.con (.int .i64 d))]), (.ptr [(.con (.func (.func ((52 : Nat))) ⟨[]⟩ ⟨[]⟩))])] (.tup [(.agg [(.con (.int .i64 (Prod.fst (opr (ok a b && ok c d) (opF (52 : Nat) a b c d))))), (.con (.int .i64 (Prod.fst (Prod.snd (opr (ok a b && ok c d) (opF (52 : Nat) a b c d))))))]), (.con (.int .i64 (Prod.snd (Prod.snd (opr (ok a b && ok c d) (opF (52 : Nat) a b c d))))))])) ∧
    (((.tup [(.agg [(.con (.int .i64 (Prod.fst (opr (ok a b && ok c d) (opF (52 : Nat) a b c d))))), (.con (.int .i64 (Prod.fst (Prod.snd (opr (ok a b && ok c d) (opF (52 : Nat) a b c d))))))]), (.con (.int .i64 (Prod.snd (Prod.snd (opr (ok a b && ok c d) (opF (52 : Nat) a b c d))))))]) : DV) = (fe (opr (ok a b && ok c d) (opF (52 : Nat) a b c d)))))) (by kernel_rfl) ?_
  exact ⟨⟨f51 52, f65_52 a b c d⟩, rfl⟩
theorem f53 (a b c d : Int) (h1 : ok a b = true) (h2 : ok c d = true) : FnOK Tryd.prog G 53 [fr a b, fr c d] (.tup [di (opF 53 a b c d).1, di (opF 53 a b c d).2]) := by
  refine FnOK.walk (orc := orc2) (keep := []) follows Tryd.func53 rfl Tryd.call53 ?_
  refine of_eqH (b :=
    (((I64 (a * c)) ∧
    (I64 (b * d))) ∧
    (((.tup [(.con (.int .i64 (a * c))), (.con (.int .i64 (b * d)))]) : DV) = (.tup [(di (Prod.fst (opF (53 : Nat) a b c d))), (di (Prod.snd (opF (53 : Nat) a b c d)))])))) (by kernel_rfl) ?_
  have m0 := mb _ _ (okb h1).1 (okb h2).1
  have m1 := mb _ _ (okb h1).2 (okb h2).2
  exact ⟨⟨⟨by omega, by omega⟩, by omega, by omega⟩, rfl⟩
theorem opR53 {a b c d : Int} (h1 : ok a b = true) (h2 : ok c d = true) : R64 (opF 53 a b c d).1 ∧ R64 (opF 53 a b c d).2 := by
  have m0 := mb _ _ (okb h1).1 (okb h2).1
  have m1 := mb _ _ (okb h1).2 (okb h2).2
  simp only [opF]
  exact ⟨⟨by omega, by omega⟩, by omega, by omega⟩
theorem f65_53 (a b c d : Int) : FnOK Tryd.prog G 65 [fr a b, fr c d, .ptr [fn 53]] (fe (opr (ok a b && ok c d) (opF 53 a b c d))) := by
  refine FnOK.walk (orc := orc2) (keep := []) follows Tryd.func65 rfl Tryd.call65 ?_
  refine of_eqH (b :=
    ((FnOK Tryd.prog G ((15 : Nat)) [(.agg [(.con (.int .i64 a)), (.con (.int .i64 b))])] (.con (.bool (ok a b))) ∧
    (((!!ok a b) = true) →
    FnOK Tryd.prog G ((15 : Nat)) [(.agg [(.con (.int .i64 c)), (.con (.int .i64 d))])] (.con (.bool (ok c d))))) ∧
    ((((!ok a b || !ok c d) = true) →
    (((.tup [(.agg [(.con (.int .i64 ((0 : Int)))), (.con (.int .i64 ((0 : Int))))]), (.con (.int .i64 ((1 : Int))))]) : DV) = (fe (opr (ok a b && ok c d) (opF (53 : Nat) a b c d))))) ∧
    (((!ok a b || !ok c d) = false) →
    (FnOK Tryd.prog G ((53 : Nat)) [(.agg [(.con (.int .i64 a)), (.con (.int .i64 b))]), (.agg [(.con (.int .i64 c)), (.con (.int .i64 d))])] (.tup [(.con (.int .i64 (a * c))), (.con (.int .i64 (b * d)))]) ∧
    ((((b * d == (0 : Int)) = true) →
    (((.tup [(.agg [(.con (.int .i64 ((0 : Int)))), (.con (.int .i64 ((0 : Int))))]), (.con (.int .i64 ((2 : Int))))]) : DV) = (fe (opr (ok a b && ok c d) (opF (53 : Nat) a b c d))))) ∧
    (((b * d == (0 : Int)) = false) →
    (FnOK Tryd.prog G ((42 : Nat)) [(.con (.int .i64 (a * c))), (.con (.int .i64 (b * d)))] (.tup [(.agg [(.con (.int .i64 (Prod.fst (red (a * c) (b * d))))), (.con (.int .i64 (Prod.fst (Prod.snd (red (a * c) (b * d))))))]), (.con (.int .i64 (Prod.snd (Prod.snd (red (a * c) (b * d))))))]) ∧
    (((.tup [(.agg [(.con (.int .i64 (Prod.fst (red (a * c) (b * d))))), (.con (.int .i64 (Prod.fst (Prod.snd (red (a * c) (b * d))))))]), (.con (.int .i64 (Prod.snd (Prod.snd (red (a * c) (b * d))))))]) : DV) = (fe (opr (ok a b && ok c d) (opF (53 : Nat) a b c d)))))))))))) (by kernel_rfl) ?_
  refine ⟨⟨f15 a b, fun _ => f15 c d⟩, fun h => ?_, fun h => ?_⟩
  · have h : (ok a b && ok c d) = false := by cases ha : ok a b <;> cases hc : ok c d <;> simp_all
    rw [h]; rfl
  · have h1 : ok a b = true := by cases ha : ok a b <;> simp_all
    have h2 : ok c d = true := by cases ha : ok c d <;> simp_all
    rw [h1, h2]
    have hr := opR53 h1 h2
    refine ⟨f53 a b c d h1 h2, fun h => ?_, fun h => ⟨f42 _ _ (by simpa using h) hr.1 hr.2, ?_⟩⟩
    · simp only [opr, opF]; rw [if_pos (show (true && true) = true from rfl), if_pos (by simpa using h)]; rfl
    · simp only [opr, opF]; rw [if_pos (show (true && true) = true from rfl), if_neg (by simpa using h)]; rfl
theorem f22 (a b c d : Int) : FnOK Tryd.prog G 22 [fr a b, fr c d] (fe (opr (ok a b && ok c d) (opF 53 a b c d))) := by
  refine FnOK.walk (orc := orc2) (keep := []) follows Tryd.func22 rfl Tryd.call22 ?_
  refine of_eqH (b :=
    ((FnOK Tryd.prog G ((51 : Nat)) [(.con (.func (.func ((53 : Nat))) ⟨[]⟩ ⟨[]⟩))] (.clo (.func ((65 : FuncId))) [] [(.ptr [(.con (.func (.func ((53 : Nat))) ⟨[]⟩ ⟨[]⟩))])]) ∧
    FnOK Tryd.prog G ((65 : Nat)) [(.agg [(.con (.int .i64 a)), (.con (.int .i64 b))]), (.agg [(.con (.int .i64 c)), (.con (.int .i64 d))]), (.ptr [(.con (.func (.func ((53 : Nat))) ⟨[]⟩ ⟨[]⟩))])] (.tup [(.agg [(.con (.int .i64 (Prod.fst (opr (ok a b && ok c d) (opF (53 : Nat) a b c d))))), (.con (.int .i64 (Prod.fst (Prod.snd (opr (ok a b && ok c d) (opF (53 : Nat) a b c d))))))]), (.con (.int .i64 (Prod.snd (Prod.snd (opr (ok a b && ok c d) (opF (53 : Nat) a b c d))))))])) ∧
    (((.tup [(.agg [(.con (.int .i64 (Prod.fst (opr (ok a b && ok c d) (opF (53 : Nat) a b c d))))), (.con (.int .i64 (Prod.fst (Prod.snd (opr (ok a b && ok c d) (opF (53 : Nat) a b c d))))))]), (.con (.int .i64 (Prod.snd (Prod.snd (opr (ok a b && ok c d) (opF (53 : Nat) a b c d))))))]) : DV) = (fe (opr (ok a b && ok c d) (opF (53 : Nat) a b c d)))))) (by kernel_rfl) ?_
  exact ⟨⟨f51 53, f65_53 a b c d⟩, rfl⟩
theorem f54 (a b c d : Int) (h1 : ok a b = true) (h2 : ok c d = true) : FnOK Tryd.prog G 54 [fr a b, fr c d] (.tup [di (opF 54 a b c d).1, di (opF 54 a b c d).2]) := by
  refine FnOK.walk (orc := orc2) (keep := []) follows Tryd.func54 rfl Tryd.call54 ?_
  refine of_eqH (b :=
    (((I64 (a * d)) ∧
    ((I64 (c * b)) ∧
    ((I64 (a * d - c * b)) ∧
    (I64 (b * d))))) ∧
    (((.tup [(.con (.int .i64 (a * d - c * b))), (.con (.int .i64 (b * d)))]) : DV) = (.tup [(di (Prod.fst (opF (54 : Nat) a b c d))), (di (Prod.snd (opF (54 : Nat) a b c d)))])))) (by kernel_rfl) ?_
  have m0 := mb _ _ (okb h1).1 (okb h2).2
  have m1 := mb _ _ (okb h2).1 (okb h1).2
  have m2 := mb _ _ (okb h1).2 (okb h2).2
  exact ⟨⟨⟨by omega, by omega⟩, ⟨by omega, by omega⟩, ⟨by omega, by omega⟩, by omega, by omega⟩, rfl⟩
theorem opR54 {a b c d : Int} (h1 : ok a b = true) (h2 : ok c d = true) : R64 (opF 54 a b c d).1 ∧ R64 (opF 54 a b c d).2 := by
  have m0 := mb _ _ (okb h1).1 (okb h2).2
  have m1 := mb _ _ (okb h2).1 (okb h1).2
  have m2 := mb _ _ (okb h1).2 (okb h2).2
  simp only [opF]
  exact ⟨⟨by omega, by omega⟩, by omega, by omega⟩
theorem f65_54 (a b c d : Int) : FnOK Tryd.prog G 65 [fr a b, fr c d, .ptr [fn 54]] (fe (opr (ok a b && ok c d) (opF 54 a b c d))) := by
  refine FnOK.walk (orc := orc2) (keep := []) follows Tryd.func65 rfl Tryd.call65 ?_
  refine of_eqH (b :=
    ((FnOK Tryd.prog G ((15 : Nat)) [(.agg [(.con (.int .i64 a)), (.con (.int .i64 b))])] (.con (.bool (ok a b))) ∧
    (((!!ok a b) = true) →
    FnOK Tryd.prog G ((15 : Nat)) [(.agg [(.con (.int .i64 c)), (.con (.int .i64 d))])] (.con (.bool (ok c d))))) ∧
    ((((!ok a b || !ok c d) = true) →
    (((.tup [(.agg [(.con (.int .i64 ((0 : Int)))), (.con (.int .i64 ((0 : Int))))]), (.con (.int .i64 ((1 : Int))))]) : DV) = (fe (opr (ok a b && ok c d) (opF (54 : Nat) a b c d))))) ∧
    (((!ok a b || !ok c d) = false) →
    (FnOK Tryd.prog G ((54 : Nat)) [(.agg [(.con (.int .i64 a)), (.con (.int .i64 b))]), (.agg [(.con (.int .i64 c)), (.con (.int .i64 d))])] (.tup [(.con (.int .i64 (a * d - c * b))), (.con (.int .i64 (b * d)))]) ∧
    ((((b * d == (0 : Int)) = true) →
    (((.tup [(.agg [(.con (.int .i64 ((0 : Int)))), (.con (.int .i64 ((0 : Int))))]), (.con (.int .i64 ((2 : Int))))]) : DV) = (fe (opr (ok a b && ok c d) (opF (54 : Nat) a b c d))))) ∧
    (((b * d == (0 : Int)) = false) →
    (FnOK Tryd.prog G ((42 : Nat)) [(.con (.int .i64 (a * d - c * b))), (.con (.int .i64 (b * d)))] (.tup [(.agg [(.con (.int .i64 (Prod.fst (red (a * d - c * b) (b * d))))), (.con (.int .i64 (Prod.fst (Prod.snd (red (a * d - c * b) (b * d))))))]), (.con (.int .i64 (Prod.snd (Prod.snd (red (a * d - c * b) (b * d))))))]) ∧
    (((.tup [(.agg [(.con (.int .i64 (Prod.fst (red (a * d - c * b) (b * d))))), (.con (.int .i64 (Prod.fst (Prod.snd (red (a * d - c * b) (b * d))))))]), (.con (.int .i64 (Prod.snd (Prod.snd (red (a * d - c * b) (b * d))))))]) : DV) = (fe (opr (ok a b && ok c d) (opF (54 : Nat) a b c d)))))))))))) (by kernel_rfl) ?_
  refine ⟨⟨f15 a b, fun _ => f15 c d⟩, fun h => ?_, fun h => ?_⟩
  · have h : (ok a b && ok c d) = false := by cases ha : ok a b <;> cases hc : ok c d <;> simp_all
    rw [h]; rfl
  · have h1 : ok a b = true := by cases ha : ok a b <;> simp_all
    have h2 : ok c d = true := by cases ha : ok c d <;> simp_all
    rw [h1, h2]
    have hr := opR54 h1 h2
    refine ⟨f54 a b c d h1 h2, fun h => ?_, fun h => ⟨f42 _ _ (by simpa using h) hr.1 hr.2, ?_⟩⟩
    · simp only [opr, opF]; rw [if_pos (show (true && true) = true from rfl), if_pos (by simpa using h)]; rfl
    · simp only [opr, opF]; rw [if_pos (show (true && true) = true from rfl), if_neg (by simpa using h)]; rfl
theorem f23 (a b c d : Int) : FnOK Tryd.prog G 23 [fr a b, fr c d] (fe (opr (ok a b && ok c d) (opF 54 a b c d))) := by
  refine FnOK.walk (orc := orc2) (keep := []) follows Tryd.func23 rfl Tryd.call23 ?_
  refine of_eqH (b :=
    ((FnOK Tryd.prog G ((51 : Nat)) [(.con (.func (.func ((54 : Nat))) ⟨[]⟩ ⟨[]⟩))] (.clo (.func ((65 : FuncId))) [] [(.ptr [(.con (.func (.func ((54 : Nat))) ⟨[]⟩ ⟨[]⟩))])]) ∧
    FnOK Tryd.prog G ((65 : Nat)) [(.agg [(.con (.int .i64 a)), (.con (.int .i64 b))]), (.agg [(.con (.int .i64 c)), (.con (.int .i64 d))]), (.ptr [(.con (.func (.func ((54 : Nat))) ⟨[]⟩ ⟨[]⟩))])] (.tup [(.agg [(.con (.int .i64 (Prod.fst (opr (ok a b && ok c d) (opF (54 : Nat) a b c d))))), (.con (.int .i64 (Prod.fst (Prod.snd (opr (ok a b && ok c d) (opF (54 : Nat) a b c d))))))]), (.con (.int .i64 (Prod.snd (Prod.snd (opr (ok a b && ok c d) (opF (54 : Nat) a b c d))))))])) ∧
    (((.tup [(.agg [(.con (.int .i64 (Prod.fst (opr (ok a b && ok c d) (opF (54 : Nat) a b c d))))), (.con (.int .i64 (Prod.fst (Prod.snd (opr (ok a b && ok c d) (opF (54 : Nat) a b c d))))))]), (.con (.int .i64 (Prod.snd (Prod.snd (opr (ok a b && ok c d) (opF (54 : Nat) a b c d))))))]) : DV) = (fe (opr (ok a b && ok c d) (opF (54 : Nat) a b c d)))))) (by kernel_rfl) ?_
  exact ⟨⟨f51 54, f65_54 a b c d⟩, rfl⟩
theorem f55 (a b c d : Int) (h1 : ok a b = true) (h2 : ok c d = true) : FnOK Tryd.prog G 55 [fr a b, fr c d] (.tup [di (opF 55 a b c d).1, di (opF 55 a b c d).2]) := by
  refine FnOK.walk (orc := orc2) (keep := []) follows Tryd.func55 rfl Tryd.call55 ?_
  refine of_eqH (b :=
    (((I64 (a * d)) ∧
    (I64 (b * c))) ∧
    (((.tup [(.con (.int .i64 (a * d))), (.con (.int .i64 (b * c)))]) : DV) = (.tup [(di (Prod.fst (opF (55 : Nat) a b c d))), (di (Prod.snd (opF (55 : Nat) a b c d)))])))) (by kernel_rfl) ?_
  have m0 := mb _ _ (okb h1).1 (okb h2).2
  have m1 := mb _ _ (okb h1).2 (okb h2).1
  exact ⟨⟨⟨by omega, by omega⟩, by omega, by omega⟩, rfl⟩
theorem opR55 {a b c d : Int} (h1 : ok a b = true) (h2 : ok c d = true) : R64 (opF 55 a b c d).1 ∧ R64 (opF 55 a b c d).2 := by
  have m0 := mb _ _ (okb h1).1 (okb h2).2
  have m1 := mb _ _ (okb h1).2 (okb h2).1
  simp only [opF]
  exact ⟨⟨by omega, by omega⟩, by omega, by omega⟩
theorem f65_55 (a b c d : Int) : FnOK Tryd.prog G 65 [fr a b, fr c d, .ptr [fn 55]] (fe (opr (ok a b && ok c d) (opF 55 a b c d))) := by
  refine FnOK.walk (orc := orc2) (keep := []) follows Tryd.func65 rfl Tryd.call65 ?_
  refine of_eqH (b :=
    ((FnOK Tryd.prog G ((15 : Nat)) [(.agg [(.con (.int .i64 a)), (.con (.int .i64 b))])] (.con (.bool (ok a b))) ∧
    (((!!ok a b) = true) →
    FnOK Tryd.prog G ((15 : Nat)) [(.agg [(.con (.int .i64 c)), (.con (.int .i64 d))])] (.con (.bool (ok c d))))) ∧
    ((((!ok a b || !ok c d) = true) →
    (((.tup [(.agg [(.con (.int .i64 ((0 : Int)))), (.con (.int .i64 ((0 : Int))))]), (.con (.int .i64 ((1 : Int))))]) : DV) = (fe (opr (ok a b && ok c d) (opF (55 : Nat) a b c d))))) ∧
    (((!ok a b || !ok c d) = false) →
    (FnOK Tryd.prog G ((55 : Nat)) [(.agg [(.con (.int .i64 a)), (.con (.int .i64 b))]), (.agg [(.con (.int .i64 c)), (.con (.int .i64 d))])] (.tup [(.con (.int .i64 (a * d))), (.con (.int .i64 (b * c)))]) ∧
    ((((b * c == (0 : Int)) = true) →
    (((.tup [(.agg [(.con (.int .i64 ((0 : Int)))), (.con (.int .i64 ((0 : Int))))]), (.con (.int .i64 ((2 : Int))))]) : DV) = (fe (opr (ok a b && ok c d) (opF (55 : Nat) a b c d))))) ∧
    (((b * c == (0 : Int)) = false) →
    (FnOK Tryd.prog G ((42 : Nat)) [(.con (.int .i64 (a * d))), (.con (.int .i64 (b * c)))] (.tup [(.agg [(.con (.int .i64 (Prod.fst (red (a * d) (b * c))))), (.con (.int .i64 (Prod.fst (Prod.snd (red (a * d) (b * c))))))]), (.con (.int .i64 (Prod.snd (Prod.snd (red (a * d) (b * c))))))]) ∧
    (((.tup [(.agg [(.con (.int .i64 (Prod.fst (red (a * d) (b * c))))), (.con (.int .i64 (Prod.fst (Prod.snd (red (a * d) (b * c))))))]), (.con (.int .i64 (Prod.snd (Prod.snd (red (a * d) (b * c))))))]) : DV) = (fe (opr (ok a b && ok c d) (opF (55 : Nat) a b c d)))))))))))) (by kernel_rfl) ?_
  refine ⟨⟨f15 a b, fun _ => f15 c d⟩, fun h => ?_, fun h => ?_⟩
  · have h : (ok a b && ok c d) = false := by cases ha : ok a b <;> cases hc : ok c d <;> simp_all
    rw [h]; rfl
  · have h1 : ok a b = true := by cases ha : ok a b <;> simp_all
    have h2 : ok c d = true := by cases ha : ok c d <;> simp_all
    rw [h1, h2]
    have hr := opR55 h1 h2
    refine ⟨f55 a b c d h1 h2, fun h => ?_, fun h => ⟨f42 _ _ (by simpa using h) hr.1 hr.2, ?_⟩⟩
    · simp only [opr, opF]; rw [if_pos (show (true && true) = true from rfl), if_pos (by simpa using h)]; rfl
    · simp only [opr, opF]; rw [if_pos (show (true && true) = true from rfl), if_neg (by simpa using h)]; rfl
theorem f24 (a b c d : Int) : FnOK Tryd.prog G 24 [fr a b, fr c d] (fe (opr (ok a b && ok c d) (opF 55 a b c d))) := by
  refine FnOK.walk (orc := orc2) (keep := []) follows Tryd.func24 rfl Tryd.call24 ?_
  refine of_eqH (b :=
    ((FnOK Tryd.prog G ((51 : Nat)) [(.con (.func (.func ((55 : Nat))) ⟨[]⟩ ⟨[]⟩))] (.clo (.func ((65 : FuncId))) [] [(.ptr [(.con (.func (.func ((55 : Nat))) ⟨[]⟩ ⟨[]⟩))])]) ∧
    FnOK Tryd.prog G ((65 : Nat)) [(.agg [(.con (.int .i64 a)), (.con (.int .i64 b))]), (.agg [(.con (.int .i64 c)), (.con (.int .i64 d))]), (.ptr [(.con (.func (.func ((55 : Nat))) ⟨[]⟩ ⟨[]⟩))])] (.tup [(.agg [(.con (.int .i64 (Prod.fst (opr (ok a b && ok c d) (opF (55 : Nat) a b c d))))), (.con (.int .i64 (Prod.fst (Prod.snd (opr (ok a b && ok c d) (opF (55 : Nat) a b c d))))))]), (.con (.int .i64 (Prod.snd (Prod.snd (opr (ok a b && ok c d) (opF (55 : Nat) a b c d))))))])) ∧
    (((.tup [(.agg [(.con (.int .i64 (Prod.fst (opr (ok a b && ok c d) (opF (55 : Nat) a b c d))))), (.con (.int .i64 (Prod.fst (Prod.snd (opr (ok a b && ok c d) (opF (55 : Nat) a b c d))))))]), (.con (.int .i64 (Prod.snd (Prod.snd (opr (ok a b && ok c d) (opF (55 : Nat) a b c d))))))]) : DV) = (fe (opr (ok a b && ok c d) (opF (55 : Nat) a b c d)))))) (by kernel_rfl) ?_
  exact ⟨⟨f51 55, f65_55 a b c d⟩, rfl⟩
end Go.Proofs
